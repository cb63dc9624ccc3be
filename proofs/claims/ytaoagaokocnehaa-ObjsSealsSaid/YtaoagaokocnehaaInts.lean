/-
  Layer 4: Ints.
-/
import Derived.Test.YtaoagaokocnehaaSl
namespace Go.Proofs.Ytaoagaokocnehaa
set_option linter.unusedVariables false
set_option linter.unusedSimpArgs false
open Go.RowKit

set_option maxRecDepth 100000 in
set_option maxHeartbeats 1600000 in
theorem ints04 {w : World} {v u : Value} {xs ys : List Int} (hx : Rd w v xs) (hy : Rd w u ys) :
    Calls Try.prog 19 #[v, u] w (Tells w (decide (xs = ys))) := by
  obtain ⟨n, a, c, f, rfl, hn, hnc, hcm, hf, hv⟩ := hx.view
  obtain ⟨m, a2, c2, g, rfl, hm, hmc, hcm2, hg, hv2⟩ := hy.view
  clear hx hy
  by_cases hnm : n = m
  · subst hnm
    have hne : ((n : Int) != n) = false := by simp
    have HV := Lib.hid hv
    have HV2 := Lib.hid hv2
    have HN := Lib.hid hn
    have HM := Lib.hid hm
    have HF := Lib.hid hf
    have HG := Lib.hid hg
    clear hv hv2 hn hm hf hg
    go_enter Try.func19, Try.ntmps19
    go_wp2_with fail
    go_loopw [5] (fun i wr => ∃ k : Nat, k ≤ n ∧ i = .int .i64 k ∧ (∃ q, wr = w.drewN q) ∧ ∀ j, j < k → f j = g j) (fun i _ => n - (intOf i).toNat)
    case atStart => exact ⟨0, Nat.zero_le _, rfl, ⟨0, rfl⟩, by intro j hj; omega⟩
    case round =>
      obtain ⟨k, hk, rfl, ⟨q, rfl⟩, hfg⟩ := hrel
      have HE := Lib.hid hfg
      clear hfg
      by_cases hlt : k < n
      · obtain ⟨b, o, rfl, hb, hc⟩ := HV.out (by omega)
        obtain ⟨b2, o2, rfl, hb2, hc2⟩ := HV2.out (by omega)
        have h1 := hc k hlt
        have h2 := hc2 k hlt
        clear hc hc2
        have HK : Hid (f k = f k ∧ g k = g k) := ⟨rfl, rfl⟩
        obtain ⟨fk, hfk⟩ : ∃ fk, fk = f k := ⟨_, rfl⟩
        obtain ⟨gk, hgk⟩ : ∃ gk, gk = g k := ⟨_, rfl⟩
        rw [← hfk] at h1
        rw [← hgk] at h2
        have HFK := Lib.hid hfk
        have HGK := Lib.hid hgk
        clear hfk hgk HK
        by_cases he : fk = gk
        · subst he
          have hnb : (fk != fk) = false := by simp
          go_wp2_with fail
          go_quiet (fail)
          go_wp2_with fail
          go_roundw
          case rel => exact ⟨k + 1, by omega, by go_num, ⟨_, rfl⟩, fun j hj => by
            rcases Nat.lt_or_ge j k with h | h
            · exact HE.out j h
            · obtain rfl : j = k := by omega
              rw [← HFK.out, ← HGK.out]⟩
          case measure => simp [intOf]; omega
        · have hnb : (fk != gk) = true := by simpa using he
          have fin : ∀ q r, Tells w (decide (xs = ys)) (.returned (.bool false)) ((w.drewN q).drewN r) := by
            intro q r
            have : xs ≠ ys := by
              refine getD_ne (k := k) ?_
              rw [← HF.out, ← HG.out, ← HFK.out, ← HGK.out]
              exact he
            refine ⟨by rw [decide_eq_false this], ?_⟩
            exact ⟨rfl, rfl, rfl, Nat.le_refl _, fun _ _ => rfl⟩
          have HT := Lib.hid fin
          clear fin he
          go_wp2_with fail
          go_quiet (fail)
          go_wp2_with fail
          go_ret
          exact HT.out _ _
      · obtain rfl : k = n := by omega
        have fin : Tells w (decide (xs = ys)) (.returned (.bool true)) (w.drewN q) := by
          have : xs = ys := list_eq_of (by rw [← HN.out, ← HM.out]) (fun j hj => by rw [← HF.out, ← HG.out]; exact HE.out j (by rw [HN.out]; exact hj))
          exact ⟨by rw [decide_eq_true this], ⟨rfl, rfl, rfl, Nat.le_refl _, fun _ _ => rfl⟩⟩
        have HT := Lib.hid fin
        clear fin
        go_wp2_with fail
        go_ret
        exact HT.out
  · have hne : ((n : Int) != m) = true := by simp; omega
    have fin : Tells w (decide (xs = ys)) (.returned (.bool false)) w := by
      have : xs ≠ ys := fun e => hnm (by rw [hn, hm, e])
      exact ⟨by rw [decide_eq_false this], Below.refl _ _⟩
    have HT := Lib.hid fin
    clear fin hnm hv hv2 hf hg hn hm
    go_enter Try.func19, Try.ntmps19
    go_wp2_with fail
    go_ret
    exact HT.out

end Go.Proofs.Ytaoagaokocnehaa
