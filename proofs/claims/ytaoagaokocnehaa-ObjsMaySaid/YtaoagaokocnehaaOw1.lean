/-
  Package objs: the walks of pairs, find, has, put.
-/
import Derived.Test.YtaoagaokocnehaaSl2
namespace Go.Proofs.Ytaoagaokocnehaa
set_option linter.unusedVariables false
set_option linter.unusedSimpArgs false
open Go.RowKit

theorem drop_cons2 (xs : List Int) (j : Nat) (h : j + 1 < xs.length) : xs.drop j = xs.getD j 0 :: xs.getD (j + 1) 0 :: xs.drop (j + 2) := by
  rw [List.drop_eq_getElem_cons (by omega), List.drop_eq_getElem_cons (by omega)]
  simp [List.getD_eq_getElem?_getD, List.getElem?_eq_getElem (show j < xs.length by omega), List.getElem?_eq_getElem h]
theorem drop_cons1 (xs : List Int) (j : Nat) (h : j + 1 = xs.length) : xs.drop j = [xs.getD j 0] := by
  rw [List.drop_eq_getElem_cons (by omega), List.drop_eq_nil_of_le (by omega)]
  simp [List.getD_eq_getElem?_getD, List.getElem?_eq_getElem (show j < xs.length by omega)]

set_option maxHeartbeats 3200000 in
theorem o_pairs {w : World} {v : Value} {xs : List Int} (hx : Rd w v xs) (hl : xs.length ≤ 17592186044416) (least : Int) :
    Calls Try.prog 38 #[v, .int .i64 least] w fun e w' => e = .returned (.bool (pairsB xs least)) ∧ w' = w := by
  obtain ⟨n, a, c, f, rfl, hn, hnc, hcm, hf, hv⟩ := hx.view
  clear hx
  have hl' : n ≤ 17592186044416 := by omega
  have HV := Lib.hid hv
  have HN := Lib.hid hn
  have HF := Lib.hid hf
  clear hv hn hf hl
  go_enter Try.func38, Try.ntmps38
  go_wp2_with fail
  go_loop [5, 6] (fun la i => ∃ (j : Nat) (last : Int), j ≤ n + 1 ∧ i = .int .i64 j ∧ la = .int .i64 last ∧ pairsGo least (-1) xs = pairsGo least last (xs.drop j)) (fun _ i => n + 1 - (intOf i).toNat)
  case atStart => exact ⟨0, -1, by omega, rfl, rfl, rfl⟩
  case round =>
    obtain ⟨j, last, hj, rfl, rfl, hp⟩ := hrel
    by_cases hlt : j + 1 < n
    · obtain ⟨b, o, rfl, hb, hc⟩ := HV.out (by omega)
      have h1 := hc j (by omega)
      have h2 := hc (j + 1) hlt
      have hd := drop_cons2 xs j (by rw [← HN.out]; exact hlt)
      rw [← HF.out, ← HF.out] at hd
      rw [hd] at hp
      clear hc hd
      generalize f j = k at *
      generalize f (j + 1) = x at *
      have hst : pairsGo least last (k :: x :: xs.drop (j + 2)) = if k ≤ last ∨ 255 < k ∨ x < least ∨ 1099511627776 < x then false else pairsGo least k (xs.drop (j + 2)) := by rw [pairsGo]
      rw [hst] at hp
      clear hst
      by_cases hbad : k ≤ last ∨ 255 < k ∨ x < least ∨ 1099511627776 < x
      · rw [if_pos hbad] at hp
        have fin : Ending.returned (.bool false) = .returned (.bool (pairsB xs least)) := by
          unfold pairsB
          rw [hp]; rfl
        have HT := Lib.hid fin
        clear fin hp
        have hb4 : k ≤ last ∨ (¬ k ≤ last ∧ 255 < k) ∨ (¬ k ≤ last ∧ ¬ 255 < k ∧ x < least) ∨ (¬ k ≤ last ∧ ¬ 255 < k ∧ ¬ x < least ∧ 1099511627776 < x) := by omega
        clear hbad
        rcases hb4 with g1 | ⟨g1, g2⟩ | ⟨g1, g2, g3⟩ | ⟨g1, g2, g3, g4⟩
        all_goals
          go_wp2_with fail
          go_ret
          exact ⟨HT.out, rfl⟩
      · rw [if_neg hbad] at hp
        have HP := Lib.hid hp
        clear hp
        have g1 : ¬ k ≤ last := by omega
        have g2 : ¬ 255 < k := by omega
        have g3 : ¬ x < least := by omega
        have g4 : ¬ 1099511627776 < x := by omega
        clear hbad
        go_wp2_with fail
        go_round
        case rel => exact ⟨j + 2, k, by omega, by go_num, rfl, HP.out⟩
        case measure => simp [intOf]; omega
    · have hp2 : pairsGo least (-1) xs = true := by
        rw [hp]
        by_cases h0 : j + 1 = n
        · rw [drop_cons1 xs j (by rw [← HN.out]; exact h0)]
          unfold pairsGo
          rfl
        · rw [List.drop_eq_nil_of_le (by rw [← HN.out]; omega)]
          unfold pairsGo
          rfl
      have fin : Ending.returned (.bool (decide (n % 2 = 0) && decide (n ≤ 128))) = .returned (.bool (pairsB xs least)) := by
        unfold pairsB
        rw [hp2, ← HN.out]
        rfl
      have HT := Lib.hid fin
      clear fin hp hp2
      by_cases he : n % 2 = 0
      · have he' : (((n : Int) % 2) == 0) = true := by simp; omega
        by_cases h128 : n ≤ 128
        · go_wp2_with fail
          go_ret
          exact ⟨by rw [← HT.out, decide_eq_true he, decide_eq_true h128]; first | rfl | (simp; omega), rfl⟩
        · go_wp2_with fail
          go_ret
          exact ⟨by rw [← HT.out, decide_eq_true he, decide_eq_false h128]; first | rfl | (simp; omega), rfl⟩
      · have he' : (((n : Int) % 2) == 0) = false := by simp; omega
        go_wp2_with fail
        go_ret
        exact ⟨by rw [← HT.out, decide_eq_false he]; first | rfl | simp, rfl⟩

/-- What find tells. -/
def FindP (w : World) (i : Nat) (is : Bool) (e : Ending) (w' : World) : Prop := e = .returned (.tuple #[.int .i64 i, .bool is]) ∧ ∃ q, w' = w.drewN q

set_option maxHeartbeats 3200000 in
theorem o_find {w : World} {v : Value} {xs : List Int} (hx : Rd w v xs) (hl : xs.length ≤ 17592186044416) (key : Int) :
    Calls Try.prog 45 #[v, .int .i64 key] w (FindP w (findI xs key) (foundB xs key)) := by
  obtain ⟨n, a, c, f, rfl, hn, hnc, hcm, hf, hv⟩ := hx.view
  clear hx
  have hl' : n ≤ 17592186044416 := by omega
  have HV := Lib.hid hv
  have HN := Lib.hid hn
  have HF := Lib.hid hf
  clear hv hn hf hl
  go_enter Try.func45, Try.ntmps45
  go_wp2_with fail
  go_loop [6] (fun i => ∃ j : Nat, j ≤ n + 1 ∧ i = .int .i64 j ∧ findI xs key = j + findI (xs.drop j) key) (fun i => n + 1 - (intOf i).toNat)
  case atStart => exact ⟨0, by omega, rfl, by simp⟩
  case round =>
    obtain ⟨j, hj, rfl, hp⟩ := hrel
    by_cases hlt : j < n
    · obtain ⟨b, o, rfl, hb, hc⟩ := HV.out (by omega)
      have h1 := hc j hlt
      obtain ⟨k, hk⟩ : ∃ k, k = f j := ⟨_, rfl⟩
      rw [← hk] at h1
      have hd : findI (xs.drop j) key = if k < key then 2 + findI (xs.drop (j + 2)) key else 0 := by
        by_cases h2 : j + 1 < n
        · rw [drop_cons2 xs j (by rw [← HN.out]; exact h2), ← HF.out, ← hk]
          rfl
        · rw [drop_cons1 xs j (by rw [← HN.out]; omega), ← HF.out, ← hk, List.drop_eq_nil_of_le (by rw [← HN.out]; omega)]
          rfl
      rw [hd] at hp
      have HK := Lib.hid hk
      clear hc hd hk
      by_cases hkk : k < key
      · rw [if_pos hkk] at hp
        have HP := Lib.hid hp
        clear hp
        go_wp2_with fail
        go_round
        case rel => exact ⟨j + 2, by omega, by go_num, by rw [HP.out]; omega⟩
        case measure => simp [intOf]; omega
      · rw [if_neg hkk] at hp
        by_cases he : k = key
        · have fin : ∀ q, FindP w (findI xs key) (foundB xs key) (.returned (.tuple #[.int .i64 j, .bool true])) (w.drewN q) := by
            intro q
            have h1 : findI xs key = j := by omega
            have h2 : foundB xs key = true := by
              unfold foundB
              rw [h1, ← HN.out, ← HF.out, ← HK.out, he]
              simp [hlt]
            rw [h1, h2]
            exact ⟨rfl, q, rfl⟩
          have HT := Lib.hid fin
          have he' : (k == key) = true := by simpa using he
          clear fin hp he
          go_wp2_with fail
          go_quiet (fail)
          go_wp2_with fail
          go_ret2
          exact HT.out _
        · have fin : ∀ q, FindP w (findI xs key) (foundB xs key) (.returned (.tuple #[.int .i64 j, .bool false])) (w.drewN q) := by
            intro q
            have h1 : findI xs key = j := by omega
            have h2 : foundB xs key = false := by
              unfold foundB
              rw [h1, ← HN.out, ← HF.out, ← HK.out]
              simp [he]
            rw [h1, h2]
            exact ⟨rfl, q, rfl⟩
          have HT := Lib.hid fin
          have he' : (k == key) = false := by simpa using he
          clear fin hp he
          go_wp2_with fail
          go_quiet (fail)
          go_wp2_with fail
          go_ret2
          exact HT.out _
    · have fin : ∀ q, FindP w (findI xs key) (foundB xs key) (.returned (.tuple #[.int .i64 j, .bool false])) (w.drewN q) := by
        intro q
        rw [List.drop_eq_nil_of_le (by rw [← HN.out]; omega)] at hp
        have h1 : findI xs key = j := by rw [hp]; rfl
        have h2 : foundB xs key = false := by
          unfold foundB
          rw [h1, ← HN.out]
          simp [hlt]
        rw [h1, h2]
        exact ⟨rfl, q, rfl⟩
      have HT := Lib.hid fin
      have hd : decide ((j : Int) < n) = false := by simp; omega
      clear fin hp
      go_wp2_with fail
      go_quiet (fail)
      go_wp2_with fail
      go_ret2
      exact HT.out _
end Go.Proofs.Ytaoagaokocnehaa
