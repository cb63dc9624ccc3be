/-
  Layer 4, the document's answer: May.
-/
import Derived.Test.YtaoagaokocnehaaRpairs
import Derived.Test.YtaoagaokocnehaaRef1
import Derived.Test.YtaoagaokocnehaaOw7
namespace Go.Proofs.Ytaoagaokocnehaa
set_option linter.unusedVariables false
set_option linter.unusedSimpArgs false
open Go.RowKit

theorem r_cutq (n : Int) (W : World) : Calls Try.prog 41 #[.int .i64 n] W fun e w' => e = .returned (.int .i64 (cutI n)) ∧ ∃ q, w' = W.drewN q := (r_cut n W).mono fun _ _ ⟨h1, h2⟩ => ⟨h1, 0, h2⟩
theorem within_false {l : List Int} {k : Nat} (hk : k < l.length) (h : l.getD k 0 ≠ cutI (l.getD k 0)) : withinB l = false := by
  cases hw : withinB l
  · rfl
  · unfold withinB at hw
    simp only [Bool.not_eq_true', List.any_eq_false, bne_iff_ne, ne_eq, Decidable.not_not] at hw
    refine absurd (hw _ ?_) h
    rw [List.getD_eq_getElem?_getD, List.getElem?_eq_getElem hk]
    simp
theorem within_true {l : List Int} (h : ∀ k, k < l.length → l.getD k 0 = cutI (l.getD k 0)) : withinB l = true := by
  unfold withinB
  simp only [Bool.not_eq_true', List.any_eq_false, bne_iff_ne, ne_eq, Decidable.not_not]
  intro x hx
  obtain ⟨k, hk, rfl⟩ := List.getElem_of_mem hx
  have := h k hk
  rwa [List.getD_eq_getElem?_getD, List.getElem?_eq_getElem hk] at this

set_option maxRecDepth 100000 in
set_option maxHeartbeats 6400000 in
theorem r_may {w : World} {vl : Value} (s : St) (hx : Rd w vl s.L) :
    Calls Try.prog 24 #[.agg #[.int .i64 s.kind, vl, .bool s.isSealed, .int .i64 s.to]] w (Tells w (mayB s)) := by
  obtain ⟨kd, xs, b, t⟩ := s
  simp only at hx ⊢
  have hB : ∀ q, Below w.heap.size w ((w.alloc (.cells #[.int .i64 kd, vl, .bool b, .int .i64 t] 24)).drewN q) := fun q => ((Below.refl _ w).alloc (Nat.le_refl _) _).trans ⟨rfl, rfl, rfl, Nat.le_refl _, fun _ _ => rfl⟩
  have HB := Lib.hid hB
  have HB0 := Lib.hid (hB 0)
  have HP := fun W least (h : Below w.heap.size w W) => Lib.hid (r_pairs (w := W) (hx.below h (Nat.le_refl _)) least)
  obtain ⟨n, a, c, f, rfl, hn, hnc, hcm, hf, hv⟩ := hx.view
  have HV := Lib.hid hv
  have HN := Lib.hid hn
  have HF := Lib.hid hf
  clear hv hn hf hx hB
  have h1 : t < 0 → mayB ⟨kd, xs, b, t⟩ = false := fun h => by unfold mayB; rw [if_pos (.inl h)]
  have h2 : 2 < t → mayB ⟨kd, xs, b, t⟩ = false := fun h => by unfold mayB; rw [if_pos (.inr (.inl (by simp only; omega)))]
  have h3 : b = false ∧ t ≠ 0 → mayB ⟨kd, xs, b, t⟩ = false := fun h => by unfold mayB; rw [if_pos (.inr (.inr h))]
  have hmay := @mayB_iff ⟨kd, xs, b, t⟩
  simp only at hmay
  generalize mayB ⟨kd, xs, b, t⟩ = mb at *
  by_cases ht1 : t < 0
  · obtain rfl := h1 ht1
    clear h1 h2 h3 hmay
    go_enter Try.func24, Try.ntmps24
    go_wp2_with fail
    go_ret
    exact ⟨rfl, HB0.out⟩
  by_cases ht2 : 2 < t
  · obtain rfl := h2 ht2
    clear h1 h2 h3 hmay
    go_enter Try.func24, Try.ntmps24
    go_wp2_with fail
    go_ret
    exact ⟨rfl, HB0.out⟩
  by_cases ht3 : b = false ∧ t ≠ 0
  · obtain rfl := h3 ht3
    obtain ⟨rfl, h0⟩ := ht3
    have h0' : (t != 0) = true := by simpa using h0
    clear h1 h2 h3 hmay h0
    go_enter Try.func24, Try.ntmps24
    go_wp2_with fail
    go_ret
    exact ⟨rfl, HB0.out⟩
  have hbt : b = true ∨ (b = false ∧ t = 0) := by
    cases b
    · right
      refine ⟨rfl, ?_⟩
      by_cases h0 : t = 0
      · exact h0
      · exact absurd ⟨rfl, h0⟩ ht3
    · exact .inl rfl
  have hto : ToOk ⟨kd, xs, b, t⟩ := by
    refine ⟨by simp only; omega, by simp only; omega, fun e => ?_⟩
    simp only at e ⊢
    rcases hbt with h | h
    · rw [h] at e; cases e
    · exact h.2
  have hm1 : (kd < 0 ∨ 6 ≤ kd) → mb = false := fun h => by
    cases mb
    · rfl
    · have := (hmay.1 rfl).2; omega
  have hm4 : kd = 4 → mb = pairsB xs (-1099511627776) := fun h => by
    rw [Bool.eq_iff_iff, hmay]
    constructor
    · rintro ⟨_, h⟩; rcases h with ⟨h, _⟩ | ⟨h, _⟩ | ⟨_, h⟩ | ⟨h, _⟩
      · omega
      · omega
      · exact h
      · omega
    · exact fun e => ⟨hto, .inr (.inr (.inl ⟨h, e⟩))⟩
  have hm5 : kd = 5 → mb = pairsB xs 0 := fun h => by
    rw [Bool.eq_iff_iff, hmay]
    constructor
    · rintro ⟨_, h⟩; rcases h with ⟨h, _⟩ | ⟨h, _⟩ | ⟨h, _⟩ | ⟨_, h⟩
      · omega
      · omega
      · omega
      · exact h
    · exact fun e => ⟨hto, .inr (.inr (.inr ⟨h, e⟩))⟩
  have hm0 : (kd = 0 ∨ kd = 1) → mb = (decide (n = 1) && withinB xs) := fun h => by
    rw [Bool.eq_iff_iff, hmay, Bool.and_eq_true, decide_eq_true_eq, withinB_iff, HN.out]
    constructor
    · rintro ⟨_, h⟩; rcases h with ⟨_, h⟩ | ⟨h, _⟩ | ⟨h, _⟩ | ⟨h, _⟩
      · exact h
      all_goals omega
    · exact fun e => ⟨hto, .inl ⟨h, e⟩⟩
  have hm2 : (kd = 2 ∨ kd = 3) → mb = (decide (n ≤ 64) && withinB xs) := fun h => by
    rw [Bool.eq_iff_iff, hmay, Bool.and_eq_true, decide_eq_true_eq, withinB_iff, HN.out]
    constructor
    · rintro ⟨_, h⟩; rcases h with ⟨h, _⟩ | ⟨_, h⟩ | ⟨h, _⟩ | ⟨h, _⟩
      · omega
      · exact h
      all_goals omega
    · exact fun e => ⟨hto, .inr (.inl ⟨h, e⟩)⟩
  clear hmay h1 h2 h3 ht3 hto
  have hk : kd < 0 ∨ 6 ≤ kd ∨ kd = 4 ∨ kd = 5 ∨ ((kd = 0 ∨ kd = 1) ∧ n ≠ 1 ∧ ¬ 64 < n) ∨ ((kd = 0 ∨ kd = 1 ∨ kd = 2 ∨ kd = 3) ∧ 64 < n) ∨ ((kd = 0 ∨ kd = 1) ∧ n = 1) ∨ ((kd = 2 ∨ kd = 3) ∧ ¬ 64 < n) := by omega
  rcases hbt with rfl | ⟨rfl, rfl⟩
  · rcases hk with hk | hk | rfl | rfl | ⟨hk, hn1, hn64⟩ | ⟨hk, hn64⟩ | ⟨hk, hn1⟩ | ⟨hk, hn64⟩
    · obtain rfl := hm1 (.inl hk)
      clear hm0 hm1 hm2 hm4 hm5
      go_enter Try.func24, Try.ntmps24
      go_wp2_with fail
      go_ret
      exact ⟨rfl, HB0.out⟩
    · obtain rfl := hm1 (.inr hk)
      clear hm0 hm1 hm2 hm4 hm5
      go_enter Try.func24, Try.ntmps24
      go_wp2_with fail
      go_ret
      exact ⟨rfl, HB0.out⟩
    · have HP4 := HP _ (-1099511627776) HB0.out
      obtain rfl := hm4 rfl
      clear hm0 hm1 hm2 hm4 hm5 HP
      generalize pairsB xs (-1099511627776) = pb at *
      go_enter Try.func24, Try.ntmps24
      go_wp2_with fail
      refine HP4.out.mono ?_
      rintro e w1 ⟨rfl, hb1⟩
      have HB1 := Lib.hid (HB0.out.trans (hb1.mono (HB0.out.size)))
      clear hb1
      go_wp2_with fail
      go_ret
      exact ⟨rfl, HB1.out⟩
    · have HP4 := HP _ (0) HB0.out
      obtain rfl := hm5 rfl
      clear hm0 hm1 hm2 hm4 hm5 HP
      generalize pairsB xs (0) = pb at *
      go_enter Try.func24, Try.ntmps24
      go_wp2_with fail
      refine HP4.out.mono ?_
      rintro e w1 ⟨rfl, hb1⟩
      have HB1 := Lib.hid (HB0.out.trans (hb1.mono (HB0.out.size)))
      clear hb1
      go_wp2_with fail
      go_ret
      exact ⟨rfl, HB1.out⟩
    · obtain rfl : mb = false := by rw [hm0 hk, decide_eq_false hn1]; rfl
      have k4 : (kd == 4) = false := by simp; omega
      have k5 : (kd == 5) = false := by simp; omega
      have k1 : kd ≤ 1 := by omega
      have k0 : 0 ≤ kd := by omega
      have n1 : ((n : Int) != 1) = true := by simp; omega
      have n64 : ¬ 64 < (n : Int) := by omega
      clear hm0 hm1 hm2 hm4 hm5 hk hn1 hn64
      go_enter Try.func24, Try.ntmps24
      go_wp2_with fail
      go_ret
      exact ⟨rfl, HB0.out⟩
    · obtain rfl : mb = false := by
        by_cases hk1 : kd = 0 ∨ kd = 1
        · rw [hm0 hk1, decide_eq_false (by omega)]; rfl
        · rw [hm2 (by omega), decide_eq_false (by omega)]; rfl
      have k4 : (kd == 4) = false := by simp; omega
      have k5 : (kd == 5) = false := by simp; omega
      have k1 : kd ≤ 3 := by omega
      have k0 : 0 ≤ kd := by omega
      have n64 : 64 < (n : Int) := by omega
      clear hm0 hm1 hm2 hm4 hm5 hk hn64
      go_enter Try.func24, Try.ntmps24
      go_wp2_with fail
      go_ret
      exact ⟨rfl, HB0.out⟩
    · obtain rfl : mb = withinB xs := by rw [hm0 hk, decide_eq_true hn1]; rfl
      have k4 : (kd == 4) = false := by simp; omega
      have k5 : (kd == 5) = false := by simp; omega
      have k1 : kd ≤ 1 := by omega
      have k0 : 0 ≤ kd := by omega
      subst hn1
      clear hk
      clear hm0 hm1 hm2 hm4 hm5 HP
      go_enter Try.func24, Try.ntmps24
      go_wp2_with fail
      go_loopw [3] (fun i wr => ∃ k : Nat, k ≤ 1 ∧ i = .int .i64 k ∧ (∃ q, wr = (w.alloc (.cells #[.int .i64 kd, .slice a 1 c, .bool true, .int .i64 t] 24)).drewN q) ∧ Hid (∀ j, j < k → f j = cutI (f j))) (fun i _ => 1 - (intOf i).toNat)
      case atStart => exact ⟨0, Nat.zero_le _, rfl, ⟨0, rfl⟩, fun j h => by omega⟩
      case round =>
        obtain ⟨k, hk, rfl, ⟨q, rfl⟩, HE⟩ := hrel
        by_cases hlt : k < 1
        · obtain ⟨b1, o, rfl, hb, hc⟩ := HV.out (by omega)
          have hc0 := hc k hlt
          obtain ⟨x, hx⟩ : ∃ x, f k = x := ⟨_, rfl⟩
          rw [hx] at hc0
          have HX := Lib.hid hx
          have HC := fun W => Lib.hid (r_cutq x W)
          clear hx hc
          by_cases he : x = cutI x
          · have HEx := Lib.hid he
            have HC0 := r_cutq x
            rw [← he] at HC0
            have HC := fun W => Lib.hid (HC0 W)
            clear HC0
            have hxx : (x != x) = false := by simp
            clear he
            go_wp2_with fail
            go_quiet (first | (go_at_call 41; with_reducible exact quiet_at (HC _).out))
            go_wp2_with fail
            go_roundw
            case rel => exact ⟨k + 1, by omega, by go_num, ⟨_, rfl⟩, fun j hj => by
              rcases Nat.lt_or_ge j k with h | h
              · exact HE.out j h
              · obtain rfl : j = k := by omega
                rw [HX.out]; exact HEx.out⟩
            case measure => simp [intOf]; omega
          · have hwf : withinB xs = false := within_false (k := k) (by rw [← HN.out]; exact hlt) (by rw [← HF.out, HX.out]; exact he)
            have HW := Lib.hid hwf
            have hxx : (x != cutI x) = true := by simpa using he
            generalize cutI x = y at *
            clear he hwf
            go_wp2_with fail
            go_quiet (first | (go_at_call 41; with_reducible exact quiet_at (HC _).out))
            go_wp2_with fail
            go_ret
            exact ⟨by rw [HW.out]; simp, by rw [World.drewN_drewN]; exact HB.out _⟩
        · obtain rfl : k = 1 := by omega
          have hwt : withinB xs = true := within_true fun j hj => by rw [← HF.out]; exact HE.out j (by rw [HN.out]; exact hj)
          have HW := Lib.hid hwt
          clear hwt
          go_wp2_with fail
          go_ret
          exact ⟨by rw [HW.out]; rfl, HB.out _⟩
    · obtain rfl : mb = withinB xs := by rw [hm2 hk, decide_eq_true (by omega)]; rfl
      have k4 : (kd == 4) = false := by simp; omega
      have k5 : (kd == 5) = false := by simp; omega
      have k1 : ¬ kd ≤ 1 := by omega
      have k3 : kd ≤ 3 := by omega
      have d1 := decide_eq_false k1
      have n64 : ¬ 64 < (n : Int) := by omega
      have n1 : ((n : Int) != 1) = true ∨ n = 1 := by
        by_cases h : n = 1
        · exact .inr h
        · left; simp; omega
      clear hk hn64
      rcases n1 with n1 | rfl
      · clear hm0 hm1 hm2 hm4 hm5 HP
        go_enter Try.func24, Try.ntmps24
        go_wp2_with fail
        go_loopw [3] (fun i wr => ∃ k : Nat, k ≤ n ∧ i = .int .i64 k ∧ (∃ q, wr = (w.alloc (.cells #[.int .i64 kd, .slice a n c, .bool true, .int .i64 t] 24)).drewN q) ∧ Hid (∀ j, j < k → f j = cutI (f j))) (fun i _ => n - (intOf i).toNat)
        case atStart => exact ⟨0, Nat.zero_le _, rfl, ⟨0, rfl⟩, fun j h => by omega⟩
        case round =>
          obtain ⟨k, hk, rfl, ⟨q, rfl⟩, HE⟩ := hrel
          by_cases hlt : k < n
          · obtain ⟨b1, o, rfl, hb, hc⟩ := HV.out (by omega)
            have hc0 := hc k hlt
            obtain ⟨x, hx⟩ : ∃ x, f k = x := ⟨_, rfl⟩
            rw [hx] at hc0
            have HX := Lib.hid hx
            have HC := fun W => Lib.hid (r_cutq x W)
            clear hx hc
            by_cases he : x = cutI x
            · have HEx := Lib.hid he
              have HC0 := r_cutq x
              rw [← he] at HC0
              have HC := fun W => Lib.hid (HC0 W)
              clear HC0
              have hxx : (x != x) = false := by simp
              clear he
              go_wp2_with fail
              go_quiet (first | (go_at_call 41; with_reducible exact quiet_at (HC _).out))
              go_wp2_with fail
              go_roundw
              case rel => exact ⟨k + 1, by omega, by go_num, ⟨_, rfl⟩, fun j hj => by
                rcases Nat.lt_or_ge j k with h | h
                · exact HE.out j h
                · obtain rfl : j = k := by omega
                  rw [HX.out]; exact HEx.out⟩
              case measure => simp [intOf]; omega
            · have hwf : withinB xs = false := within_false (k := k) (by rw [← HN.out]; exact hlt) (by rw [← HF.out, HX.out]; exact he)
              have HW := Lib.hid hwf
              have hxx : (x != cutI x) = true := by simpa using he
              generalize cutI x = y at *
              clear he hwf
              go_wp2_with fail
              go_quiet (first | (go_at_call 41; with_reducible exact quiet_at (HC _).out))
              go_wp2_with fail
              go_ret
              exact ⟨by rw [HW.out]; simp, by rw [World.drewN_drewN]; exact HB.out _⟩
          · obtain rfl : k = n := by omega
            have hwt : withinB xs = true := within_true fun j hj => by rw [← HF.out]; exact HE.out j (by rw [HN.out]; exact hj)
            have HW := Lib.hid hwt
            clear hwt
            go_wp2_with fail
            go_ret
            exact ⟨by rw [HW.out]; rfl, HB.out _⟩
      · clear hm0 hm1 hm2 hm4 hm5 HP
        go_enter Try.func24, Try.ntmps24
        go_wp2_with fail
        go_loopw [3] (fun i wr => ∃ k : Nat, k ≤ 1 ∧ i = .int .i64 k ∧ (∃ q, wr = (w.alloc (.cells #[.int .i64 kd, .slice a 1 c, .bool true, .int .i64 t] 24)).drewN q) ∧ Hid (∀ j, j < k → f j = cutI (f j))) (fun i _ => 1 - (intOf i).toNat)
        case atStart => exact ⟨0, Nat.zero_le _, rfl, ⟨0, rfl⟩, fun j h => by omega⟩
        case round =>
          obtain ⟨k, hk, rfl, ⟨q, rfl⟩, HE⟩ := hrel
          by_cases hlt : k < 1
          · obtain ⟨b1, o, rfl, hb, hc⟩ := HV.out (by omega)
            have hc0 := hc k hlt
            obtain ⟨x, hx⟩ : ∃ x, f k = x := ⟨_, rfl⟩
            rw [hx] at hc0
            have HX := Lib.hid hx
            have HC := fun W => Lib.hid (r_cutq x W)
            clear hx hc
            by_cases he : x = cutI x
            · have HEx := Lib.hid he
              have HC0 := r_cutq x
              rw [← he] at HC0
              have HC := fun W => Lib.hid (HC0 W)
              clear HC0
              have hxx : (x != x) = false := by simp
              clear he
              go_wp2_with fail
              go_quiet (first | (go_at_call 41; with_reducible exact quiet_at (HC _).out))
              go_wp2_with fail
              go_roundw
              case rel => exact ⟨k + 1, by omega, by go_num, ⟨_, rfl⟩, fun j hj => by
                rcases Nat.lt_or_ge j k with h | h
                · exact HE.out j h
                · obtain rfl : j = k := by omega
                  rw [HX.out]; exact HEx.out⟩
              case measure => simp [intOf]; omega
            · have hwf : withinB xs = false := within_false (k := k) (by rw [← HN.out]; exact hlt) (by rw [← HF.out, HX.out]; exact he)
              have HW := Lib.hid hwf
              have hxx : (x != cutI x) = true := by simpa using he
              generalize cutI x = y at *
              clear he hwf
              go_wp2_with fail
              go_quiet (first | (go_at_call 41; with_reducible exact quiet_at (HC _).out))
              go_wp2_with fail
              go_ret
              exact ⟨by rw [HW.out]; simp, by rw [World.drewN_drewN]; exact HB.out _⟩
          · obtain rfl : k = 1 := by omega
            have hwt : withinB xs = true := within_true fun j hj => by rw [← HF.out]; exact HE.out j (by rw [HN.out]; exact hj)
            have HW := Lib.hid hwt
            clear hwt
            go_wp2_with fail
            go_ret
            exact ⟨by rw [HW.out]; rfl, HB.out _⟩
  · rcases hk with hk | hk | rfl | rfl | ⟨hk, hn1, hn64⟩ | ⟨hk, hn64⟩ | ⟨hk, hn1⟩ | ⟨hk, hn64⟩
    · obtain rfl := hm1 (.inl hk)
      clear hm0 hm1 hm2 hm4 hm5
      go_enter Try.func24, Try.ntmps24
      go_wp2_with fail
      go_ret
      exact ⟨rfl, HB0.out⟩
    · obtain rfl := hm1 (.inr hk)
      clear hm0 hm1 hm2 hm4 hm5
      go_enter Try.func24, Try.ntmps24
      go_wp2_with fail
      go_ret
      exact ⟨rfl, HB0.out⟩
    · have HP4 := HP _ (-1099511627776) HB0.out
      obtain rfl := hm4 rfl
      clear hm0 hm1 hm2 hm4 hm5 HP
      generalize pairsB xs (-1099511627776) = pb at *
      go_enter Try.func24, Try.ntmps24
      go_wp2_with fail
      refine HP4.out.mono ?_
      rintro e w1 ⟨rfl, hb1⟩
      have HB1 := Lib.hid (HB0.out.trans (hb1.mono (HB0.out.size)))
      clear hb1
      go_wp2_with fail
      go_ret
      exact ⟨rfl, HB1.out⟩
    · have HP4 := HP _ (0) HB0.out
      obtain rfl := hm5 rfl
      clear hm0 hm1 hm2 hm4 hm5 HP
      generalize pairsB xs (0) = pb at *
      go_enter Try.func24, Try.ntmps24
      go_wp2_with fail
      refine HP4.out.mono ?_
      rintro e w1 ⟨rfl, hb1⟩
      have HB1 := Lib.hid (HB0.out.trans (hb1.mono (HB0.out.size)))
      clear hb1
      go_wp2_with fail
      go_ret
      exact ⟨rfl, HB1.out⟩
    · obtain rfl : mb = false := by rw [hm0 hk, decide_eq_false hn1]; rfl
      have k4 : (kd == 4) = false := by simp; omega
      have k5 : (kd == 5) = false := by simp; omega
      have k1 : kd ≤ 1 := by omega
      have k0 : 0 ≤ kd := by omega
      have n1 : ((n : Int) != 1) = true := by simp; omega
      have n64 : ¬ 64 < (n : Int) := by omega
      clear hm0 hm1 hm2 hm4 hm5 hk hn1 hn64
      go_enter Try.func24, Try.ntmps24
      go_wp2_with fail
      go_ret
      exact ⟨rfl, HB0.out⟩
    · obtain rfl : mb = false := by
        by_cases hk1 : kd = 0 ∨ kd = 1
        · rw [hm0 hk1, decide_eq_false (by omega)]; rfl
        · rw [hm2 (by omega), decide_eq_false (by omega)]; rfl
      have k4 : (kd == 4) = false := by simp; omega
      have k5 : (kd == 5) = false := by simp; omega
      have k1 : kd ≤ 3 := by omega
      have k0 : 0 ≤ kd := by omega
      have n64 : 64 < (n : Int) := by omega
      clear hm0 hm1 hm2 hm4 hm5 hk hn64
      go_enter Try.func24, Try.ntmps24
      go_wp2_with fail
      go_ret
      exact ⟨rfl, HB0.out⟩
    · obtain rfl : mb = withinB xs := by rw [hm0 hk, decide_eq_true hn1]; rfl
      have k4 : (kd == 4) = false := by simp; omega
      have k5 : (kd == 5) = false := by simp; omega
      have k1 : kd ≤ 1 := by omega
      have k0 : 0 ≤ kd := by omega
      subst hn1
      clear hk
      clear hm0 hm1 hm2 hm4 hm5 HP
      go_enter Try.func24, Try.ntmps24
      go_wp2_with fail
      go_loopw [3] (fun i wr => ∃ k : Nat, k ≤ 1 ∧ i = .int .i64 k ∧ (∃ q, wr = (w.alloc (.cells #[.int .i64 kd, .slice a 1 c, .bool false, .int .i64 0] 24)).drewN q) ∧ Hid (∀ j, j < k → f j = cutI (f j))) (fun i _ => 1 - (intOf i).toNat)
      case atStart => exact ⟨0, Nat.zero_le _, rfl, ⟨0, rfl⟩, fun j h => by omega⟩
      case round =>
        obtain ⟨k, hk, rfl, ⟨q, rfl⟩, HE⟩ := hrel
        by_cases hlt : k < 1
        · obtain ⟨b1, o, rfl, hb, hc⟩ := HV.out (by omega)
          have hc0 := hc k hlt
          obtain ⟨x, hx⟩ : ∃ x, f k = x := ⟨_, rfl⟩
          rw [hx] at hc0
          have HX := Lib.hid hx
          have HC := fun W => Lib.hid (r_cutq x W)
          clear hx hc
          by_cases he : x = cutI x
          · have HEx := Lib.hid he
            have HC0 := r_cutq x
            rw [← he] at HC0
            have HC := fun W => Lib.hid (HC0 W)
            clear HC0
            have hxx : (x != x) = false := by simp
            clear he
            go_wp2_with fail
            go_quiet (first | (go_at_call 41; with_reducible exact quiet_at (HC _).out))
            go_wp2_with fail
            go_roundw
            case rel => exact ⟨k + 1, by omega, by go_num, ⟨_, rfl⟩, fun j hj => by
              rcases Nat.lt_or_ge j k with h | h
              · exact HE.out j h
              · obtain rfl : j = k := by omega
                rw [HX.out]; exact HEx.out⟩
            case measure => simp [intOf]; omega
          · have hwf : withinB xs = false := within_false (k := k) (by rw [← HN.out]; exact hlt) (by rw [← HF.out, HX.out]; exact he)
            have HW := Lib.hid hwf
            have hxx : (x != cutI x) = true := by simpa using he
            generalize cutI x = y at *
            clear he hwf
            go_wp2_with fail
            go_quiet (first | (go_at_call 41; with_reducible exact quiet_at (HC _).out))
            go_wp2_with fail
            go_ret
            exact ⟨by rw [HW.out]; simp, by rw [World.drewN_drewN]; exact HB.out _⟩
        · obtain rfl : k = 1 := by omega
          have hwt : withinB xs = true := within_true fun j hj => by rw [← HF.out]; exact HE.out j (by rw [HN.out]; exact hj)
          have HW := Lib.hid hwt
          clear hwt
          go_wp2_with fail
          go_ret
          exact ⟨by rw [HW.out]; rfl, HB.out _⟩
    · obtain rfl : mb = withinB xs := by rw [hm2 hk, decide_eq_true (by omega)]; rfl
      have k4 : (kd == 4) = false := by simp; omega
      have k5 : (kd == 5) = false := by simp; omega
      have k1 : ¬ kd ≤ 1 := by omega
      have k3 : kd ≤ 3 := by omega
      have d1 := decide_eq_false k1
      have n64 : ¬ 64 < (n : Int) := by omega
      have n1 : ((n : Int) != 1) = true ∨ n = 1 := by
        by_cases h : n = 1
        · exact .inr h
        · left; simp; omega
      clear hk hn64
      rcases n1 with n1 | rfl
      · clear hm0 hm1 hm2 hm4 hm5 HP
        go_enter Try.func24, Try.ntmps24
        go_wp2_with fail
        go_loopw [3] (fun i wr => ∃ k : Nat, k ≤ n ∧ i = .int .i64 k ∧ (∃ q, wr = (w.alloc (.cells #[.int .i64 kd, .slice a n c, .bool false, .int .i64 0] 24)).drewN q) ∧ Hid (∀ j, j < k → f j = cutI (f j))) (fun i _ => n - (intOf i).toNat)
        case atStart => exact ⟨0, Nat.zero_le _, rfl, ⟨0, rfl⟩, fun j h => by omega⟩
        case round =>
          obtain ⟨k, hk, rfl, ⟨q, rfl⟩, HE⟩ := hrel
          by_cases hlt : k < n
          · obtain ⟨b1, o, rfl, hb, hc⟩ := HV.out (by omega)
            have hc0 := hc k hlt
            obtain ⟨x, hx⟩ : ∃ x, f k = x := ⟨_, rfl⟩
            rw [hx] at hc0
            have HX := Lib.hid hx
            have HC := fun W => Lib.hid (r_cutq x W)
            clear hx hc
            by_cases he : x = cutI x
            · have HEx := Lib.hid he
              have HC0 := r_cutq x
              rw [← he] at HC0
              have HC := fun W => Lib.hid (HC0 W)
              clear HC0
              have hxx : (x != x) = false := by simp
              clear he
              go_wp2_with fail
              go_quiet (first | (go_at_call 41; with_reducible exact quiet_at (HC _).out))
              go_wp2_with fail
              go_roundw
              case rel => exact ⟨k + 1, by omega, by go_num, ⟨_, rfl⟩, fun j hj => by
                rcases Nat.lt_or_ge j k with h | h
                · exact HE.out j h
                · obtain rfl : j = k := by omega
                  rw [HX.out]; exact HEx.out⟩
              case measure => simp [intOf]; omega
            · have hwf : withinB xs = false := within_false (k := k) (by rw [← HN.out]; exact hlt) (by rw [← HF.out, HX.out]; exact he)
              have HW := Lib.hid hwf
              have hxx : (x != cutI x) = true := by simpa using he
              generalize cutI x = y at *
              clear he hwf
              go_wp2_with fail
              go_quiet (first | (go_at_call 41; with_reducible exact quiet_at (HC _).out))
              go_wp2_with fail
              go_ret
              exact ⟨by rw [HW.out]; simp, by rw [World.drewN_drewN]; exact HB.out _⟩
          · obtain rfl : k = n := by omega
            have hwt : withinB xs = true := within_true fun j hj => by rw [← HF.out]; exact HE.out j (by rw [HN.out]; exact hj)
            have HW := Lib.hid hwt
            clear hwt
            go_wp2_with fail
            go_ret
            exact ⟨by rw [HW.out]; rfl, HB.out _⟩
      · clear hm0 hm1 hm2 hm4 hm5 HP
        go_enter Try.func24, Try.ntmps24
        go_wp2_with fail
        go_loopw [3] (fun i wr => ∃ k : Nat, k ≤ 1 ∧ i = .int .i64 k ∧ (∃ q, wr = (w.alloc (.cells #[.int .i64 kd, .slice a 1 c, .bool false, .int .i64 0] 24)).drewN q) ∧ Hid (∀ j, j < k → f j = cutI (f j))) (fun i _ => 1 - (intOf i).toNat)
        case atStart => exact ⟨0, Nat.zero_le _, rfl, ⟨0, rfl⟩, fun j h => by omega⟩
        case round =>
          obtain ⟨k, hk, rfl, ⟨q, rfl⟩, HE⟩ := hrel
          by_cases hlt : k < 1
          · obtain ⟨b1, o, rfl, hb, hc⟩ := HV.out (by omega)
            have hc0 := hc k hlt
            obtain ⟨x, hx⟩ : ∃ x, f k = x := ⟨_, rfl⟩
            rw [hx] at hc0
            have HX := Lib.hid hx
            have HC := fun W => Lib.hid (r_cutq x W)
            clear hx hc
            by_cases he : x = cutI x
            · have HEx := Lib.hid he
              have HC0 := r_cutq x
              rw [← he] at HC0
              have HC := fun W => Lib.hid (HC0 W)
              clear HC0
              have hxx : (x != x) = false := by simp
              clear he
              go_wp2_with fail
              go_quiet (first | (go_at_call 41; with_reducible exact quiet_at (HC _).out))
              go_wp2_with fail
              go_roundw
              case rel => exact ⟨k + 1, by omega, by go_num, ⟨_, rfl⟩, fun j hj => by
                rcases Nat.lt_or_ge j k with h | h
                · exact HE.out j h
                · obtain rfl : j = k := by omega
                  rw [HX.out]; exact HEx.out⟩
              case measure => simp [intOf]; omega
            · have hwf : withinB xs = false := within_false (k := k) (by rw [← HN.out]; exact hlt) (by rw [← HF.out, HX.out]; exact he)
              have HW := Lib.hid hwf
              have hxx : (x != cutI x) = true := by simpa using he
              generalize cutI x = y at *
              clear he hwf
              go_wp2_with fail
              go_quiet (first | (go_at_call 41; with_reducible exact quiet_at (HC _).out))
              go_wp2_with fail
              go_ret
              exact ⟨by rw [HW.out]; simp, by rw [World.drewN_drewN]; exact HB.out _⟩
          · obtain rfl : k = 1 := by omega
            have hwt : withinB xs = true := within_true fun j hj => by rw [← HF.out]; exact HE.out j (by rw [HN.out]; exact hj)
            have HW := Lib.hid hwt
            clear hwt
            go_wp2_with fail
            go_ret
            exact ⟨by rw [HW.out]; rfl, HB.out _⟩
end Go.Proofs.Ytaoagaokocnehaa
