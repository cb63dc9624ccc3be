/-
  Layer 4, the document's answer: pairs.
-/
import Derived.Test.YtaoagaokocnehaaStaP
import Derived.Test.YtaoagaokocnehaaSl
import Derived.IntWalk
namespace Go.Proofs.Ytaoagaokocnehaa
set_option linter.unusedVariables false
set_option linter.unusedSimpArgs false
open Go.RowKit

def lastE (last : Int) (l : List Int) (e : Nat) : Int := if e = 0 then last else l.getD (e - 2) 0
def okE (least last : Int) (l : List Int) (e : Nat) : Prop := lastE last l e < l.getD e 0 ∧ l.getD e 0 ≤ 255 ∧ least ≤ l.getD (e + 1) 0 ∧ l.getD (e + 1) 0 ≤ 1099511627776
theorem okE_succ {least last k v : Int} {r : List Int} {e : Nat} (he : e % 2 = 0) : okE least last (k :: v :: r) (e + 2) ↔ okE least k r e := by
  have h1 : (k :: v :: r).getD (e + 2) 0 = r.getD e 0 := by simp
  have h2 : (k :: v :: r).getD (e + 2 + 1) 0 = r.getD (e + 1) 0 := by
    rw [show e + 2 + 1 = (e + 1) + 1 + 1 by omega]
    simp
  have h3 : lastE last (k :: v :: r) (e + 2) = lastE k r e := by
    unfold lastE
    rw [if_neg (by omega)]
    by_cases h : e = 0
    · subst h; simp
    · rw [if_neg h]
      obtain ⟨m, rfl⟩ : ∃ m, e = m + 1 := ⟨e - 1, by omega⟩
      rcases m with _ | m
      · omega
      · simp
  unfold okE
  rw [h1, h2, h3]
theorem pairsGo_iff : ∀ (least last : Int) (l : List Int), l.length % 2 = 0 → (pairsGo least last l = true ↔ ∀ e, e % 2 = 0 → e < l.length → okE least last l e)
  | least, last, k :: v :: r, he => by
    have ih := pairsGo_iff least k r (by simp at he; omega)
    rw [pairsGo_cons, ih]
    constructor
    · rintro ⟨h1, h2⟩ e h3 h4
      rcases e with _ | _ | e
      · simpa [okE, lastE] using h1
      · omega
      · rw [okE_succ (by omega)]; exact h2 e (by omega) (by simp at h4; omega)
    · intro h
      refine ⟨by simpa [okE, lastE] using h 0 rfl (by simp), fun e h3 h4 => ?_⟩
      have := h (e + 2) (by omega) (by simp; omega)
      rwa [okE_succ h3] at this
  | _, _, [k], he => by simp at he
  | _, _, [], _ => by simp [pairsGo]

theorem okE_nonneg {least : Int} {l : List Int} : ∀ (e : Nat), e % 2 = 0 → (∀ d, d % 2 = 0 → d ≤ e → okE least (-1) l d) → 0 ≤ l.getD e 0
  | 0, _, h => by
    have := (h 0 rfl (Nat.le_refl _)).1
    simp only [lastE, if_pos] at this
    omega
  | 1, he, _ => by omega
  | e + 2, he, h => by
    have ih := okE_nonneg e (by omega) (fun d h1 h2 => h d h1 (by omega))
    have := (h (e + 2) he (Nat.le_refl _)).1
    rw [lastE, if_neg (by omega)] at this
    simp only [Nat.add_sub_cancel] at this
    omega

set_option maxRecDepth 100000 in
set_option maxHeartbeats 6400000 in
theorem r_pairs {w : World} {v : Value} {xs : List Int} (hx : Rd w v xs) (least : Int) :
    Calls Try.prog 40 #[v, .int .i64 least] w (Tells w (pairsB xs least)) := by
  obtain ⟨n, a, c, f, rfl, hn, hnc, hcm, hf, hv⟩ := hx.view
  clear hx
  have HB := Lib.hid (fun q => (⟨rfl, rfl, rfl, Nat.le_refl _, fun _ _ => rfl⟩ : Below w.heap.size w (w.drewN q)))
  have HB0 := Lib.hid (Below.refl w.heap.size w)
  by_cases h2 : n % 2 = 0
  case neg =>
    have e : pairsB xs least = false := by
      cases h : pairsB xs least
      · rfl
      · have := (pairsB_iff.1 h).2.1; omega
    have g1 : ((n : Int) % 2 != 0) = true := by
      have : (n : Int) % 2 = 1 := by omega
      rw [this]; rfl
    rw [e]
    clear e hv hf hn h2
    go_enter Try.func40, Try.ntmps40
    go_wp2_with fail
    go_ret
    exact ⟨rfl, HB0.out⟩
  have g1 : ((n : Int) % 2 != 0) = false := by
    have : (n : Int) % 2 = 0 := by omega
    rw [this]; rfl
  by_cases h128 : n ≤ 128
  case neg =>
    have e : pairsB xs least = false := by
      cases h : pairsB xs least
      · rfl
      · have := (pairsB_iff.1 h).2.2; omega
    have g2 : 128 < (n : Int) := by omega
    rw [e]
    clear e hv hf hn h2 h128
    go_enter Try.func40, Try.ntmps40
    go_wp2_with fail
    go_ret
    exact ⟨rfl, HB0.out⟩
  have g2 : ¬ 128 < (n : Int) := by omega
  have hP : pairsB xs least = pairsGo least (-1) xs := by
    have h1 : xs.length % 2 = 0 := by omega
    have h3 : xs.length ≤ 128 := by omega
    simp [pairsB, h1, h3]
  have hI := pairsGo_iff least (-1) xs (by omega)
  rw [hP]
  clear hP
  have HI := Lib.hid hI
  have HV := Lib.hid hv
  have HN := Lib.hid hn
  have HF := Lib.hid hf
  clear hI hv hn hf
  go_enter Try.func40, Try.ntmps40
  go_wp2_with fail
  go_loopw [5] (fun i wr => ∃ e : Nat, e ≤ n ∧ e % 2 = 0 ∧ i = .int .i64 e ∧ (∃ q, wr = w.drewN q) ∧ Hid (∀ d, d % 2 = 0 → d < e → okE least (-1) xs d)) (fun i _ => n - (intOf i).toNat)
  case atStart => exact ⟨0, Nat.zero_le _, rfl, rfl, ⟨0, rfl⟩, fun d _ h => by omega⟩
  case round =>
    obtain ⟨e, he, he2, rfl, ⟨q, rfl⟩, HE⟩ := hrel
    by_cases hlt : e < n
    · have hx0 := HF.out e
      obtain ⟨bb, o, rfl, hb, hc⟩ := HV.out (by omega)
      have hc0 := hc e hlt
      have hc1 := hc (e + 1) (by omega)
      have hcp := hc (e - 2) (by omega)
      have hlt1 : e + 1 < n := by omega
      clear hx0
      obtain ⟨x, hfx⟩ : ∃ x, f e = x := ⟨_, rfl⟩
      obtain ⟨y, hfy⟩ : ∃ y, f (e + 1) = y := ⟨_, rfl⟩
      obtain ⟨p, hfp⟩ : ∃ p, f (e - 2) = p := ⟨_, rfl⟩
      rw [hfx] at hc0
      rw [hfy] at hc1
      rw [hfp] at hcp
      have FX := Lib.hid hfx
      have FY := Lib.hid hfy
      have FP := Lib.hid hfp
      clear hfx hfy hfp hc
      have hok : okE least (-1) xs e ↔ ((if e = 0 then -1 else p) < x ∧ x ≤ 255 ∧ least ≤ y ∧ y ≤ 1099511627776) := by
        unfold okE lastE
        rw [← HF.out, ← HF.out, ← HF.out, FX.out, FY.out, FP.out]
      have hbad : ¬ okE least (-1) xs e → pairsGo least (-1) xs = false := fun h => by
        cases hp : pairsGo least (-1) xs
        · rfl
        · exact absurd (HI.out.1 hp e he2 (by rw [← HN.out]; exact hlt)) h
      have hgood : okE least (-1) xs e → ∀ d, d % 2 = 0 → d < e + 2 → okE least (-1) xs d := fun h d h1 h2 => by
        rcases Nat.lt_or_ge d e with h3 | h3
        · exact HE.out d h1 h3
        · obtain rfl : d = e := by omega
          exact h
      have hp0 : e ≠ 0 → 0 ≤ p := fun h => by
        rw [← FP.out, HF.out]
        exact okE_nonneg (least := least) (e - 2) (by omega) (fun d h1 h2 => HE.out d h1 (by omega))
      rw [hok] at hbad hgood
      clear hok FX FY FP HE
      by_cases he0 : e = 0
      · subst he0
        simp only [if_pos] at hbad hgood
        simp only [Nat.add_zero, Nat.zero_add] at hc0 hc1 hlt1
        clear hcp
        rcases (by omega : x < 0 ∨ (0 ≤ x ∧ 255 < x) ∨ (0 ≤ x ∧ x ≤ 255 ∧ y < least) ∨ (0 ≤ x ∧ x ≤ 255 ∧ least ≤ y ∧ 1099511627776 < y) ∨ (0 ≤ x ∧ x ≤ 255 ∧ least ≤ y ∧ y ≤ 1099511627776)) with h1 | ⟨h1, h2⟩ | ⟨h1, h2, h3⟩ | ⟨h1, h2, h3, h4⟩ | ⟨h1, h2, h3, h4⟩
        · have FIN := Lib.hid (hbad (by omega))
          clear hbad hgood hp0
          go_wp2_with fail
          go_quiet (fail)
          go_wp2_with fail
          go_ret
          exact ⟨by rw [FIN.out]; rfl, by rw [World.drewN_drewN]; exact HB.out _⟩
        · have FIN := Lib.hid (hbad (by omega))
          clear hbad hgood hp0
          have d1 := decide_eq_false (show ¬ x < 0 by omega)
          go_wp2_with fail
          go_quiet (fail)
          go_wp2_with fail
          go_ret
          exact ⟨by rw [FIN.out]; rfl, by rw [World.drewN_drewN]; exact HB.out _⟩
        · have FIN := Lib.hid (hbad (by omega))
          clear hbad hgood hp0
          have d1 := decide_eq_false (show ¬ x < 0 by omega)
          have d2 := decide_eq_false (show ¬ 255 < x by omega)
          go_wp2_with fail
          go_quiet (fail)
          go_wp2_with fail
          go_ret
          exact ⟨by rw [FIN.out]; rfl, by rw [World.drewN_drewN]; exact HB.out _⟩
        · have FIN := Lib.hid (hbad (by omega))
          clear hbad hgood hp0
          have d1 := decide_eq_false (show ¬ x < 0 by omega)
          have d2 := decide_eq_false (show ¬ 255 < x by omega)
          have d4 := decide_eq_false (show ¬ y < least by omega)
          go_wp2_with fail
          go_quiet (fail)
          go_wp2_with fail
          go_ret
          exact ⟨by rw [FIN.out]; rfl, by rw [World.drewN_drewN]; exact HB.out _⟩
        · have GD := Lib.hid (hgood (by omega))
          clear hbad hgood hp0
          have d1 := decide_eq_false (show ¬ x < 0 by omega)
          have d2 := decide_eq_false (show ¬ 255 < x by omega)
          have d4 := decide_eq_false (show ¬ y < least by omega)
          have d5 := decide_eq_false (show ¬ 1099511627776 < y by omega)
          go_wp2_with fail
          go_quiet (fail)
          go_wp2_with fail
          go_roundw
          case rel => exact ⟨2, by omega, by omega, by go_num, ⟨_, rfl⟩, GD.out⟩
          case measure => simp [intOf]; omega
      · have hp := hp0 he0
        rw [if_neg he0] at hbad hgood
        obtain ⟨d, rfl⟩ : ∃ d, e = d + 2 := ⟨e - 2, by omega⟩
        simp only [Nat.add_sub_cancel] at hcp
        clear he0
        rcases (by omega : x < 0 ∨ (0 ≤ x ∧ 255 < x) ∨ (0 ≤ x ∧ x ≤ 255 ∧ x ≤ p) ∨ (0 ≤ x ∧ x ≤ 255 ∧ p < x ∧ y < least) ∨ (0 ≤ x ∧ x ≤ 255 ∧ p < x ∧ least ≤ y ∧ 1099511627776 < y) ∨ (0 ≤ x ∧ x ≤ 255 ∧ p < x ∧ least ≤ y ∧ y ≤ 1099511627776)) with h1 | ⟨h1, h2⟩ | ⟨h1, h2, h3⟩ | ⟨h1, h2, h3, h4⟩ | ⟨h1, h2, h3, h4, h5⟩ | ⟨h1, h2, h3, h4, h5⟩
        · have FIN := Lib.hid (hbad (by omega))
          clear hbad hgood hp0
          go_wp2_with fail
          go_quiet (fail)
          go_wp2_with fail
          go_ret
          exact ⟨by rw [FIN.out]; rfl, by rw [World.drewN_drewN]; exact HB.out _⟩
        · have FIN := Lib.hid (hbad (by omega))
          clear hbad hgood hp0
          have d1 := decide_eq_false (show ¬ x < 0 by omega)
          go_wp2_with fail
          go_quiet (fail)
          go_wp2_with fail
          go_ret
          exact ⟨by rw [FIN.out]; rfl, by rw [World.drewN_drewN]; exact HB.out _⟩
        · have FIN := Lib.hid (hbad (by omega))
          clear hbad hgood hp0
          have d1 := decide_eq_false (show ¬ x < 0 by omega)
          have d2 := decide_eq_false (show ¬ 255 < x by omega)
          have w3 : ((d : Int) + 2 + 1).toNat = d + 2 + 1 := by omega
          have w4 : (0 : Int) ≤ (d : Int) + 2 + 1 := by omega
          have w5 : (d : Int) + 2 + 1 < n := by omega
          have w6 : (0 : Int) ≤ (d : Int) + 2 := by omega
          have w7 : ((d : Int) + 2).toNat = d + 2 := by omega
          have w8 : (d : Int) + 2 < n := by omega
          have w9 : (d : Int) < n := by omega
          have wa : decide ((0 : Int) < (d : Int) + 2) = true := decide_eq_true (by omega)
          have w1 : IntKind.i64.wrap ((d : Int) + 2 - 2) = (d : Int) := by rw [IntWalk.i64_in _ (by omega)]; omega
          have w2 : IntKind.i64.wrap ((d : Int) + 2 + 1) = (d : Int) + 2 + 1 := IntWalk.i64_in _ (by omega)
          go_wp2_with fail
          go_quiet (fail)
          clear w1 w2 w3 w4 w5 w6 w7 w8 w9 wa
          go_wp2_with fail
          go_ret
          exact ⟨by rw [FIN.out]; rfl, by rw [World.drewN_drewN]; exact HB.out _⟩
        · have FIN := Lib.hid (hbad (by omega))
          clear hbad hgood hp0
          have d1 := decide_eq_false (show ¬ x < 0 by omega)
          have d2 := decide_eq_false (show ¬ 255 < x by omega)
          have d3 := decide_eq_false (show ¬ x ≤ p by omega)
          have w3 : ((d : Int) + 2 + 1).toNat = d + 2 + 1 := by omega
          have w4 : (0 : Int) ≤ (d : Int) + 2 + 1 := by omega
          have w5 : (d : Int) + 2 + 1 < n := by omega
          have w6 : (0 : Int) ≤ (d : Int) + 2 := by omega
          have w7 : ((d : Int) + 2).toNat = d + 2 := by omega
          have w8 : (d : Int) + 2 < n := by omega
          have w9 : (d : Int) < n := by omega
          have wa : decide ((0 : Int) < (d : Int) + 2) = true := decide_eq_true (by omega)
          have w1 : IntKind.i64.wrap ((d : Int) + 2 - 2) = (d : Int) := by rw [IntWalk.i64_in _ (by omega)]; omega
          have w2 : IntKind.i64.wrap ((d : Int) + 2 + 1) = (d : Int) + 2 + 1 := IntWalk.i64_in _ (by omega)
          go_wp2_with fail
          go_quiet (fail)
          clear w1 w2 w3 w4 w5 w6 w7 w8 w9 wa
          go_wp2_with fail
          go_ret
          exact ⟨by rw [FIN.out]; rfl, by rw [World.drewN_drewN]; exact HB.out _⟩
        · have FIN := Lib.hid (hbad (by omega))
          clear hbad hgood hp0
          have d1 := decide_eq_false (show ¬ x < 0 by omega)
          have d2 := decide_eq_false (show ¬ 255 < x by omega)
          have d3 := decide_eq_false (show ¬ x ≤ p by omega)
          have d4 := decide_eq_false (show ¬ y < least by omega)
          have w3 : ((d : Int) + 2 + 1).toNat = d + 2 + 1 := by omega
          have w4 : (0 : Int) ≤ (d : Int) + 2 + 1 := by omega
          have w5 : (d : Int) + 2 + 1 < n := by omega
          have w6 : (0 : Int) ≤ (d : Int) + 2 := by omega
          have w7 : ((d : Int) + 2).toNat = d + 2 := by omega
          have w8 : (d : Int) + 2 < n := by omega
          have w9 : (d : Int) < n := by omega
          have wa : decide ((0 : Int) < (d : Int) + 2) = true := decide_eq_true (by omega)
          have w1 : IntKind.i64.wrap ((d : Int) + 2 - 2) = (d : Int) := by rw [IntWalk.i64_in _ (by omega)]; omega
          have w2 : IntKind.i64.wrap ((d : Int) + 2 + 1) = (d : Int) + 2 + 1 := IntWalk.i64_in _ (by omega)
          go_wp2_with fail
          go_quiet (fail)
          clear w1 w2 w3 w4 w5 w6 w7 w8 w9 wa
          go_wp2_with fail
          go_ret
          exact ⟨by rw [FIN.out]; rfl, by rw [World.drewN_drewN]; exact HB.out _⟩
        · have GD := Lib.hid (hgood (by omega))
          clear hbad hgood hp0
          have d1 := decide_eq_false (show ¬ x < 0 by omega)
          have d2 := decide_eq_false (show ¬ 255 < x by omega)
          have d3 := decide_eq_false (show ¬ x ≤ p by omega)
          have d4 := decide_eq_false (show ¬ y < least by omega)
          have d5 := decide_eq_false (show ¬ 1099511627776 < y by omega)
          have w3 : ((d : Int) + 2 + 1).toNat = d + 2 + 1 := by omega
          have w4 : (0 : Int) ≤ (d : Int) + 2 + 1 := by omega
          have w5 : (d : Int) + 2 + 1 < n := by omega
          have w6 : (0 : Int) ≤ (d : Int) + 2 := by omega
          have w7 : ((d : Int) + 2).toNat = d + 2 := by omega
          have w8 : (d : Int) + 2 < n := by omega
          have w9 : (d : Int) < n := by omega
          have wa : decide ((0 : Int) < (d : Int) + 2) = true := decide_eq_true (by omega)
          have w1 : IntKind.i64.wrap ((d : Int) + 2 - 2) = (d : Int) := by rw [IntWalk.i64_in _ (by omega)]; omega
          have w2 : IntKind.i64.wrap ((d : Int) + 2 + 1) = (d : Int) + 2 + 1 := IntWalk.i64_in _ (by omega)
          go_wp2_with fail
          go_quiet (fail)
          clear w1 w2 w3 w4 w5 w6 w7 w8 w9 wa
          go_wp2_with fail
          go_roundw
          case rel => exact ⟨d + 2 + 2, by omega, by omega, by go_num, ⟨_, rfl⟩, GD.out⟩
          case measure => simp [intOf]; omega
    · obtain rfl : e = n := by omega
      have fin : pairsGo least (-1) xs = true := HI.out.2 (fun d h1 h2 => HE.out d h1 (by rw [HN.out]; exact h2))
      have FIN := Lib.hid fin
      clear fin
      go_wp2_with fail
      go_ret
      exact ⟨by rw [FIN.out]; rfl, HB.out _⟩
end Go.Proofs.Ytaoagaokocnehaa
