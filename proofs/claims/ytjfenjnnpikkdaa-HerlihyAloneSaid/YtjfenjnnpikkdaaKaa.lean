/-
  Package objs: the walks of pairs, find, has, put.
-/
import Derived.Test.YtjfenjnnpikkdaaKa
set_option linter.unusedVariables false
set_option linter.unusedSimpArgs false
namespace Go.Proofs.Ytjfenjnnpikkdaa
set_option maxRecDepth 100000
open Go.RowKit

theorem drop_cons2 (xs : List Int) (j : Nat) (h : j + 1 < xs.length) : xs.drop j = xs.getD j 0 :: xs.getD (j + 1) 0 :: xs.drop (j + 2) := by
  rw [List.drop_eq_getElem_cons (by omega), List.drop_eq_getElem_cons (by omega)]
  simp [List.getD_eq_getElem?_getD, List.getElem?_eq_getElem (show j < xs.length by omega), List.getElem?_eq_getElem h]
theorem drop_cons1 (xs : List Int) (j : Nat) (h : j + 1 = xs.length) : xs.drop j = [xs.getD j 0] := by
  rw [List.drop_eq_getElem_cons (by omega), List.drop_eq_nil_of_le (by omega)]
  simp [List.getD_eq_getElem?_getD, List.getElem?_eq_getElem (show j < xs.length by omega)]

set_option maxHeartbeats 3200000 in
theorem o_pairs_any {w : World} {v : Value} {xs : List Int} (hx : Rd w v xs) (least : Int) :
    Calls Try.prog 61 #[v, .int .i64 least] w fun e w' => e = .returned (.bool (pairsB xs least)) ∧ w' = w := by
  obtain ⟨n, a, c, f, rfl, hn, hnc, hcm, hf, hv⟩ := hx.view
  clear hx
  have hl' : n ≤ 9223372036854775807 := by omega
  have HV := Lib.hid hv
  have HN := Lib.hid hn
  have HF := Lib.hid hf
  clear hv hn hf
  go_enter Try.func61, Try.ntmps61
  go_wp2_with fail
  go_loop [5, 6] (fun la i => ∃ (j : Nat) (last : Int), j ≤ n + 1 ∧ ((j : Int) ≤ 2 * last + 2 ∧ last ≤ 255) ∧ i = .int .i64 j ∧ la = .int .i64 last ∧ pairsGo least (-1) xs = pairsGo least last (xs.drop j)) (fun _ i => n + 1 - (intOf i).toNat)
  case atStart => exact ⟨0, -1, by omega, by omega, rfl, rfl, rfl⟩
  case round =>
    obtain ⟨j, last, hj, ⟨hj2, hla⟩, rfl, rfl, hp⟩ := hrel
    by_cases hlt : j + 1 < n
    · obtain ⟨b, o, rfl, hb, hc⟩ := HV.out (by omega)
      have h1 := hc j (by omega)
      have h2 := hc (j + 1) hlt
      have hd := drop_cons2 xs j (by rw [← HN.out]; exact hlt)
      rw [← HF.out, ← HF.out] at hd
      rw [hd] at hp
      clear hc hd
      generalize f j = k at *
      generalize f (j + 1) = x at *
      have hst : pairsGo least last (k :: x :: xs.drop (j + 2)) = if k ≤ last ∨ 255 < k ∨ x < least ∨ 1099511627776 < x then false else pairsGo least k (xs.drop (j + 2)) := by rw [pairsGo]
      rw [hst] at hp
      clear hst
      by_cases hbad : k ≤ last ∨ 255 < k ∨ x < least ∨ 1099511627776 < x
      · rw [if_pos hbad] at hp
        have fin : Ending.returned (.bool false) = .returned (.bool (pairsB xs least)) := by
          unfold pairsB
          rw [hp]; rfl
        have HT := Lib.hid fin
        clear fin hp
        have hb4 : k ≤ last ∨ (¬ k ≤ last ∧ 255 < k) ∨ (¬ k ≤ last ∧ ¬ 255 < k ∧ x < least) ∨ (¬ k ≤ last ∧ ¬ 255 < k ∧ ¬ x < least ∧ 1099511627776 < x) := by omega
        clear hbad
        rcases hb4 with g1 | ⟨g1, g2⟩ | ⟨g1, g2, g3⟩ | ⟨g1, g2, g3, g4⟩
        all_goals
          go_wp2_with fail
          go_ret
          exact ⟨HT.out, rfl⟩
      · rw [if_neg hbad] at hp
        have HP := Lib.hid hp
        clear hp
        have g1 : ¬ k ≤ last := by omega
        have g2 : ¬ 255 < k := by omega
        have g3 : ¬ x < least := by omega
        have g4 : ¬ 1099511627776 < x := by omega
        clear hbad
        go_wp2_with fail
        go_round
        case rel => exact ⟨j + 2, k, by omega, by omega, by go_num, rfl, HP.out⟩
        case measure => simp [intOf]; omega
    · have hp2 : pairsGo least (-1) xs = true := by
        rw [hp]
        by_cases h0 : j + 1 = n
        · rw [drop_cons1 xs j (by rw [← HN.out]; exact h0)]
          unfold pairsGo
          rfl
        · rw [List.drop_eq_nil_of_le (by rw [← HN.out]; omega)]
          unfold pairsGo
          rfl
      have fin : Ending.returned (.bool (decide (n % 2 = 0) && decide (n ≤ 128))) = .returned (.bool (pairsB xs least)) := by
        unfold pairsB
        rw [hp2, ← HN.out]
        rfl
      have HT := Lib.hid fin
      clear fin hp hp2
      by_cases he : n % 2 = 0
      · have he' : (((n : Int) % 2) == 0) = true := by simp; omega
        by_cases h128 : n ≤ 128
        · go_wp2_with fail
          go_ret
          exact ⟨by rw [← HT.out, decide_eq_true he, decide_eq_true h128]; first | rfl | (simp; omega), rfl⟩
        · go_wp2_with fail
          go_ret
          exact ⟨by rw [← HT.out, decide_eq_true he, decide_eq_false h128]; first | rfl | (simp; omega), rfl⟩
      · have he' : (((n : Int) % 2) == 0) = false := by simp; omega
        go_wp2_with fail
        go_ret
        exact ⟨by rw [← HT.out, decide_eq_false he]; first | rfl | simp, rfl⟩
/-- What find tells. -/
def FindP (w : World) (i : Nat) (is : Bool) (e : Ending) (w' : World) : Prop := e = .returned (.tuple #[.int .i64 i, .bool is]) ∧ ∃ q, w' = w.drewN q

set_option maxHeartbeats 3200000 in
theorem o_find {w : World} {v : Value} {xs : List Int} (hx : Rd w v xs) (hl : xs.length ≤ 17592186044416) (key : Int) :
    Calls Try.prog 85 #[v, .int .i64 key] w (FindP w (findI xs key) (foundB xs key)) := by
  obtain ⟨n, a, c, f, rfl, hn, hnc, hcm, hf, hv⟩ := hx.view
  clear hx
  have hl' : n ≤ 17592186044416 := by omega
  have HV := Lib.hid hv
  have HN := Lib.hid hn
  have HF := Lib.hid hf
  clear hv hn hf hl
  go_enter Try.func85, Try.ntmps85
  go_wp2_with fail
  go_loop [6] (fun i => ∃ j : Nat, j ≤ n + 1 ∧ i = .int .i64 j ∧ findI xs key = j + findI (xs.drop j) key) (fun i => n + 1 - (intOf i).toNat)
  case atStart => exact ⟨0, by omega, rfl, by simp⟩
  case round =>
    obtain ⟨j, hj, rfl, hp⟩ := hrel
    by_cases hlt : j < n
    · obtain ⟨b, o, rfl, hb, hc⟩ := HV.out (by omega)
      have h1 := hc j hlt
      obtain ⟨k, hk⟩ : ∃ k, k = f j := ⟨_, rfl⟩
      rw [← hk] at h1
      have hd : findI (xs.drop j) key = if k < key then 2 + findI (xs.drop (j + 2)) key else 0 := by
        by_cases h2 : j + 1 < n
        · rw [drop_cons2 xs j (by rw [← HN.out]; exact h2), ← HF.out, ← hk]
          rfl
        · rw [drop_cons1 xs j (by rw [← HN.out]; omega), ← HF.out, ← hk, List.drop_eq_nil_of_le (by rw [← HN.out]; omega)]
          rfl
      rw [hd] at hp
      have HK := Lib.hid hk
      clear hc hd hk
      by_cases hkk : k < key
      · rw [if_pos hkk] at hp
        have HP := Lib.hid hp
        clear hp
        go_wp2_with fail
        go_round
        case rel => exact ⟨j + 2, by omega, by go_num, by rw [HP.out]; omega⟩
        case measure => simp [intOf]; omega
      · rw [if_neg hkk] at hp
        by_cases he : k = key
        · have fin : ∀ q, FindP w (findI xs key) (foundB xs key) (.returned (.tuple #[.int .i64 j, .bool true])) (w.drewN q) := by
            intro q
            have h1 : findI xs key = j := by omega
            have h2 : foundB xs key = true := by
              unfold foundB
              rw [h1, ← HN.out, ← HF.out, ← HK.out, he]
              simp [hlt]
            rw [h1, h2]
            exact ⟨rfl, q, rfl⟩
          have HT := Lib.hid fin
          have he' : (k == key) = true := by simpa using he
          clear fin hp he
          go_wp2_with fail
          go_quiet (fail)
          go_wp2_with fail
          go_ret2
          exact HT.out _
        · have fin : ∀ q, FindP w (findI xs key) (foundB xs key) (.returned (.tuple #[.int .i64 j, .bool false])) (w.drewN q) := by
            intro q
            have h1 : findI xs key = j := by omega
            have h2 : foundB xs key = false := by
              unfold foundB
              rw [h1, ← HN.out, ← HF.out, ← HK.out]
              simp [he]
            rw [h1, h2]
            exact ⟨rfl, q, rfl⟩
          have HT := Lib.hid fin
          have he' : (k == key) = false := by simpa using he
          clear fin hp he
          go_wp2_with fail
          go_quiet (fail)
          go_wp2_with fail
          go_ret2
          exact HT.out _
    · have fin : ∀ q, FindP w (findI xs key) (foundB xs key) (.returned (.tuple #[.int .i64 j, .bool false])) (w.drewN q) := by
        intro q
        rw [List.drop_eq_nil_of_le (by rw [← HN.out]; omega)] at hp
        have h1 : findI xs key = j := by rw [hp]; rfl
        have h2 : foundB xs key = false := by
          unfold foundB
          rw [h1, ← HN.out]
          simp [hlt]
        rw [h1, h2]
        exact ⟨rfl, q, rfl⟩
      have HT := Lib.hid fin
      have hd : decide ((j : Int) < n) = false := by simp; omega
      clear fin hp
      go_wp2_with fail
      go_quiet (fail)
      go_wp2_with fail
      go_ret2
      exact HT.out _
end Go.Proofs.Ytjfenjnnpikkdaa
/- Package objs: the walks of has, put, May, Fits, Same. -/
namespace Go.Proofs.Ytjfenjnnpikkdaa
set_option maxRecDepth 100000
open Go.RowKit

theorem below_drewN (w : World) (q : Nat) : Below w.heap.size w (w.drewN q) := ⟨rfl, rfl, rfl, Nat.le_refl _, fun _ _ => rfl⟩
theorem below_of_drewN {w w' : World} {q : Nat} (h : Below (w.drewN q).heap.size (w.drewN q) w') : Below w.heap.size w w' := ⟨h.os, h.tape, h.output, h.size, h.block⟩
theorem found_lt {xs : List Int} {key : Int} (h : foundB xs key = true) (he : xs.length % 2 = 0) : findI xs key + 1 < xs.length := by
  unfold foundB at h
  simp only [Bool.and_eq_true, decide_eq_true_eq] at h
  have := findI_even xs key
  omega

set_option maxHeartbeats 800000 in
theorem o_has {w : World} {v : Value} {xs : List Int} (hx : Rd w v xs) (hl : xs.length ≤ 17592186044416) (he : xs.length % 2 = 0) (key : Int) :
    Calls Try.prog 84 #[v, .int .i64 key] w fun e w' => e = .returned (.int .i64 (hasI xs key)) ∧ ∃ q, w' = w.drewN q := by
  have HF := Lib.hid (o_find hx hl key)
  have HX := Lib.hid hx
  obtain ⟨a, c, rfl, _⟩ := hx
  by_cases hf : foundB xs key = true
  · have hh : hasI xs key = xs.getD (findI xs key + 1) 0 := by unfold hasI; rw [if_pos hf]
    have hlt := found_lt hf he
    rw [hh]
    rw [hf] at HF
    obtain ⟨j, hj⟩ : ∃ j, j = findI xs key := ⟨_, rfl⟩
    rw [← hj] at HF hlt ⊢
    obtain ⟨n, a', c', f, e0, hn, hnc, hcm, hfn, hv⟩ := HX.out.view
    simp at e0
    obtain ⟨rfl, hnn, rfl⟩ := e0
    obtain ⟨b, o, rfl, hb, hc⟩ := hv (by omega)
    have h2 := hc (j + 1) (by omega)
    rw [hfn] at h2
    generalize xs.getD (j + 1) 0 = x at *
    generalize xs.length = m at *
    clear hc hv hfn hj hh hn hnn HX
    go_enter Try.func84, Try.ntmps84
    go_wp2_with fail
    refine HF.out.mono ?_
    rintro e w1 ⟨rfl, q, rfl⟩
    go_wp2_with fail
    go_ret
    exact ⟨rfl, q, rfl⟩
  · have hf' : foundB xs key = false := by simpa using hf
    have hh : hasI xs key = -1 := by unfold hasI; rw [if_neg hf]
    rw [hh]
    rw [hf'] at HF
    generalize findI xs key = j at *
    clear hh hf hf' HX
    go_enter Try.func84, Try.ntmps84
    go_wp2_with fail
    refine HF.out.mono ?_
    rintro e w1 ⟨rfl, q, rfl⟩
    go_wp2_with fail
    go_ret
    exact ⟨rfl, q, rfl⟩

/-- Of a slice: its block, if it has one, lies from B on. -/
def Fresh (B : Nat) (v : Value) : Prop := ∀ k, v.ownBlock = some k → B ≤ k
theorem fresh_some {B g o n c : Nat} (h : B ≤ g) : Fresh B (.slice (some ⟨g, o, none⟩) n c) := by
  intro k hk
  simp only [Value.ownBlock, Option.some.injEq] at hk
  omega
theorem fresh_none {B n c : Nat} : Fresh B (.slice none n c) := by
  intro k hk
  simp [Value.ownBlock] at hk
theorem Fresh.mono {A B : Nat} {v : Value} (h : Fresh B v) (hb : A ≤ B) : Fresh A v := fun k hk => Nat.le_trans hb (h k hk)
/-- What put tells. -/
def PutP (w : World) (xs : List Int) (ok : Bool) (e : Ending) (w' : World) : Prop := ∃ v', e = .returned (.tuple #[v', .bool ok]) ∧ Rd w' v' xs ∧ (ok = true → Own w' 3 1 v' xs.length (ints xs) ∧ Fresh w.heap.size v') ∧ Below w.heap.size w w'

theorem putp_of {w w1 : World} {v : Value} {xs : List Int} {n : Nat} (h : Own w1 3 1 v n (ints xs)) (hb : Below w.heap.size w w1) (hfr : Fresh w.heap.size v) : PutP w xs true (.returned (.tuple #[v, .bool true])) w1 := by
  have hn : xs.length = n := by have := h.1; simpa [ints] using this
  subst hn
  exact ⟨v, rfl, own_rd h, fun _ => ⟨h, hfr⟩, hb⟩

set_option maxRecDepth 100000 in
set_option maxHeartbeats 1600000 in
theorem o_put {w : World} {v : Value} {xs : List Int} (hx : Rd w v xs) (hl : xs.length ≤ 1099511627776) (he : xs.length % 2 = 0) (key n : Int) :
    Calls Try.prog 86 #[v, .int .i64 key, .int .i64 n] w (PutP w (putL xs key n) (putB xs key)) := by
  have HF := Lib.hid (o_find hx (by omega) key)
  have HC := fun q => Lib.hid (sl_clone (hx.drewN q) (by omega))
  have HX := Lib.hid hx
  obtain ⟨a, c, rfl, _⟩ := hx
  by_cases hf : foundB xs key = true
  · have hp : putL xs key n = xs.set (findI xs key + 1) n := by unfold putL; rw [if_pos hf]
    have hb : putB xs key = true := by unfold putB; rw [hf]; rfl
    have hlt := found_lt hf he
    rw [hp, hb]
    rw [hf] at HF
    generalize findI xs key = j at *
    obtain ⟨m, hm⟩ : ∃ m, m = xs.length := ⟨_, rfl⟩
    have HM := Lib.hid hm
    rw [← hm] at hlt hl HF HC ⊢
    clear hp hb hf he HX hm
    go_enter Try.func86, Try.ntmps86
    go_wp2_with fail
    refine HF.out.mono ?_
    rintro e w1 ⟨rfl, q, rfl⟩
    go_wp2_with fail
    refine (HC q).out.mono ?_
    rintro e w2 ⟨v2, rfl, hown, hfr, hb2⟩
    replace hb2 := below_of_drewN hb2
    obtain ⟨g, c2, rfl, hc1, hc2⟩ := own_open hown (by rw [← HM.out]; omega)
    have hcell := World.ownsRow.cellAt hown (j + 1) (by rw [← HM.out]; omega)
    rw [ints_get _ _ (by rw [← HM.out]; omega)] at hcell
    have hfz := World.ownsRow.frozenAt hown (j + 1)
    have hst := (World.ownsRow.stored hown (j + 1) (.int .i64 n)).1
    rw [ints_set] at hst
    have hge : w.heap.size ≤ g := hfr g rfl
    have fin := putp_of hst (w := w) (hb2.setCell (p := ⟨g, j + 1, none⟩) hge (.int .i64 n)) (fresh_some hge)
    have HT := Lib.hid fin
    generalize xs.getD (j + 1) 0 = x at hcell
    rw [← HM.out] at hc1 ⊢
    simp only [maxLen] at hc2
    clear fin hst hown hfr hb2 HC HF
    have hcc : m ≤ 9223372036854775807 := by omega
    go_wp2_with fail
    go_ret2
    exact HM.out ▸ HT.out
  · have hf' : foundB xs key = false := by simpa using hf
    rw [hf'] at HF
    by_cases h128 : 128 ≤ xs.length
    · have hp : putL xs key n = xs := by unfold putL; rw [if_neg hf, if_pos h128]
      have hb : putB xs key = false := by unfold putB; rw [hf', decide_eq_false (by omega)]; rfl
      rw [hp, hb]
      have fin : ∀ q, PutP w xs false (.returned (.tuple #[.slice a xs.length c, .bool false])) (w.drewN q) := fun q => ⟨_, rfl, HX.out.drewN q, fun h => by simp at h, below_drewN w q⟩
      have HT := Lib.hid fin
      generalize findI xs key = j at *
      obtain ⟨m, hm⟩ : ∃ m, m = xs.length := ⟨_, rfl⟩
      rw [← hm] at h128 hl HF HT ⊢
      clear hp hb hf hf' he HX hm HC fin
      go_enter Try.func86, Try.ntmps86
      go_wp2_with fail
      refine HF.out.mono ?_
      rintro e w1 ⟨rfl, q, rfl⟩
      go_wp2_with fail
      go_ret2
      exact HT.out q
    · have hp : putL xs key n = xs.take (findI xs key) ++ [key, n] ++ xs.drop (findI xs key) := by unfold putL; rw [if_neg hf, if_neg h128]
      have hb : putB xs key = true := by unfold putB; rw [hf', decide_eq_true (by omega)]; rfl
      have hle := findI_le xs key he
      rw [hp, hb]
      generalize findI xs key = j at *
      obtain ⟨m, hm⟩ : ∃ m, m = xs.length := ⟨_, rfl⟩
      have HM := Lib.hid hm
      rw [← hm] at h128 hl hle HF HC ⊢
      have HL := Lib.hid hle
      clear hp hb hf hf' he HX hm hle
      go_enter Try.func86, Try.ntmps86
      go_wp2_with fail
      refine HF.out.mono ?_
      rintro e w1 ⟨rfl, q, rfl⟩
      go_wp2_with fail
      refine (HC q).out.mono ?_
      rintro e w2 ⟨v2, rfl, hown, hfr, hb2⟩
      replace hb2 := below_of_drewN hb2
      rw [← HM.out] at hown
      have HO := Lib.hid hown
      have HFR := Lib.hid hfr
      have HB := Lib.hid hb2
      clear hown hfr hb2 HC HF
      go_wp2_with fail
      refine (sl_insert (w := w2.alloc (.cells #[.int .i64 key, .int .i64 n] 3)) (v := v2) (n := m) (i := j) (xs := xs) (own_keeps (F := fun _ => False) HO.out ((Keeps.refl _ _).alloc _) (by simp)) w2.heap.size key n (Blk.new w2 _ _) (fun e => by have := own_lt HO.out e; omega) (by omega) HL.out).mono ?_
      rintro e w3 ⟨v3, rfl, hown3, hat, hk3⟩
      have fin : PutP w (xs.take j ++ [key, n] ++ xs.drop j) true (.returned (.tuple #[v3, .bool true])) w3 := by
        have b2 : Below w.heap.size w (w2.alloc (.cells #[.int .i64 key, .int .i64 n] 3)) := HB.out.alloc HB.out.size _
        refine putp_of hown3 ?_ ?_
        · exact b2.trans (hk3.below (fun k hk => HFR.out k hk) (by have := HB.out.size; rw [World.size_alloc]; omega))
        · intro k hk
          have hs := HB.out.size
          rcases hat with e | ⟨b, e, hb⟩
          · have := HFR.out k (e ▸ hk)
            simpa using this
          · rw [e] at hk
            simp only [Option.some.injEq] at hk
            rw [World.size_alloc] at hb
            omega
      have HT := Lib.hid fin
      clear fin hown3 hat hk3
      go_wp2_with fail
      go_ret2
      exact HT.out
end Go.Proofs.Ytjfenjnnpikkdaa
/- Package objs: the walks of May, Fits, Same, Start. -/
namespace Go.Proofs.Ytjfenjnnpikkdaa
set_option maxRecDepth 100000
open Go.RowKit

theorem bool_ret {b c : Bool} (h : b = c) : Ending.returned (.bool b) = .returned (.bool c) := by rw [h]

set_option maxRecDepth 100000 in
set_option maxHeartbeats 3200000 in
theorem o_may_any {w : World} {vl : Value} (s : St) (hx : Rd w vl s.L) :
    Calls Try.prog 37 #[.agg #[.int .i64 s.kind, vl, .bool s.isSealed, .int .i64 s.to]] w (Tells w (mayB s)) := by
  obtain ⟨k, L, b, t⟩ := s
  simp only at hx ⊢
  have hW : Below w.heap.size w (w.alloc (.cells #[.int .i64 k, vl, .bool b, .int .i64 t] 24)) := (Below.refl _ w).alloc (Nat.le_refl _) _
  have hx1 := hx.alloc (.cells #[.int .i64 k, vl, .bool b, .int .i64 t] 24)
  have HC := Lib.hid (sl_contains hx1)
  have HP := Lib.hid (o_pairs_any hx1)
  obtain ⟨n, a, c, hvl, hn, hl'⟩ : ∃ n a c, vl = .slice a n c ∧ n = L.length ∧ n ≤ 9223372036854775807 := by
    obtain ⟨a, c, e, h1, h2, _⟩ := hx
    exact ⟨_, a, c, e, rfl, by omega⟩
  subst hvl
  have HN := Lib.hid hn
  clear hn hx
  have HW := Lib.hid hW
  clear hW hx1
  have hto : (t < 0 ∨ 3 ≤ t ∨ (b = false ∧ t ≠ 0)) ∨ (0 ≤ t ∧ t < 3 ∧ (b = true ∨ t = 0)) := by
    cases b <;> simp <;> omega
  rcases hto with hbad | ⟨t1, t2, t3⟩
  · have hm : mayB ⟨k, L, b, t⟩ = false := by unfold mayB; simp only; rw [if_pos hbad]
    rw [hm]
    clear hm HC HP
    have hb3 : t < 0 ∨ (¬ t < 0 ∧ 3 ≤ t) ∨ (¬ t < 0 ∧ ¬ 3 ≤ t ∧ b = false ∧ (t != 0) = true) := by
      rcases hbad with h | h | ⟨h1, h2⟩
      · exact .inl h
      · exact .inr (.inl ⟨by omega, h⟩)
      · by_cases g : t < 0
        · exact .inl g
        · by_cases g2 : 3 ≤ t
          · exact .inr (.inl ⟨g, g2⟩)
          · exact .inr (.inr ⟨g, g2, h1, by simpa using h2⟩)
    clear hbad
    rcases hb3 with g1 | ⟨g1, g2⟩ | ⟨g1, g2, rfl, g4⟩
    all_goals
      go_enter Try.func37, Try.ntmps37
      go_wp2_with fail
      go_ret
      exact ⟨rfl, HW.out⟩
  · have hnb : ¬ (t < 0 ∨ 3 ≤ t ∨ (b = false ∧ t ≠ 0)) := by
      rcases t3 with rfl | rfl <;> simp <;> omega
    have g1 : ¬ t < 0 := by omega
    have g2 : ¬ 3 ≤ t := by omega
    have hm : mayB ⟨k, L, b, t⟩ = if k = 0 ∨ k = 1 then decide (L.length = 1) && withinB L else if k = 2 ∨ k = 3 then decide (L.length ≤ 64) && withinB L else if k = 4 then pairsB L (-1099511627776) else if k = 5 then pairsB L 0 else false := by
      unfold mayB; simp only; rw [if_neg hnb]
    have hwi : (!L.any (fun n => n != cutI n)) = withinB L := rfl
    generalize hq : L.any (fun n => n != cutI n) = q at HC hwi
    have t4 : b = true ∨ (b = false ∧ (t != 0) = false) := by
      rcases t3 with h | rfl
      · exact .inl h
      · cases b <;> simp
    have HM := Lib.hid hm
    have HI := Lib.hid hwi
    clear hm hnb t1 t2 hq t3 hwi
    by_cases k0 : k = 0
    · subst k0
      have e0 : mayB ⟨0, L, b, t⟩ = (decide (L.length = 1) && withinB L) := by rw [HM.out]; simp
      by_cases h1 : n = 1
      · have h1' : ((n : Int) == 1) = true := by simp; omega
        have fin : (!q) = mayB ⟨0, L, b, t⟩ := by rw [e0, HI.out, decide_eq_true (by rw [← HN.out]; exact h1)]; rfl
        have HT := Lib.hid fin
        clear fin e0 h1
        rcases t4 with rfl | ⟨rfl, h0⟩
        all_goals
          go_enter Try.func37, Try.ntmps37
          go_wp2_with fail
          refine HC.out.mono ?_
          rintro e w1 ⟨rfl, rfl⟩
          go_wp2_with fail
          go_ret
          exact ⟨bool_ret HT.out, HW.out⟩
      · have h1' : ((n : Int) == 1) = false := by simp; omega
        have fin : false = mayB ⟨0, L, b, t⟩ := by rw [e0, decide_eq_false (by rw [← HN.out]; exact h1)]; rfl
        have HT := Lib.hid fin
        clear fin e0 h1
        rcases t4 with rfl | ⟨rfl, h0⟩
        all_goals
          go_enter Try.func37, Try.ntmps37
          go_wp2_with fail
          refine HC.out.mono ?_
          rintro e w1 ⟨rfl, rfl⟩
          go_wp2_with fail
          go_ret
          exact ⟨bool_ret HT.out, HW.out⟩
    by_cases k1 : k = 1
    · subst k1
      have e0 : mayB ⟨1, L, b, t⟩ = (decide (L.length = 1) && withinB L) := by rw [HM.out]; simp
      by_cases h1 : n = 1
      · have h1' : ((n : Int) == 1) = true := by simp; omega
        have fin : (!q) = mayB ⟨1, L, b, t⟩ := by rw [e0, HI.out, decide_eq_true (by rw [← HN.out]; exact h1)]; rfl
        have HT := Lib.hid fin
        clear fin e0 h1
        rcases t4 with rfl | ⟨rfl, h0⟩
        all_goals
          go_enter Try.func37, Try.ntmps37
          go_wp2_with fail
          refine HC.out.mono ?_
          rintro e w1 ⟨rfl, rfl⟩
          go_wp2_with fail
          go_ret
          exact ⟨bool_ret HT.out, HW.out⟩
      · have h1' : ((n : Int) == 1) = false := by simp; omega
        have fin : false = mayB ⟨1, L, b, t⟩ := by rw [e0, decide_eq_false (by rw [← HN.out]; exact h1)]; rfl
        have HT := Lib.hid fin
        clear fin e0 h1
        rcases t4 with rfl | ⟨rfl, h0⟩
        all_goals
          go_enter Try.func37, Try.ntmps37
          go_wp2_with fail
          refine HC.out.mono ?_
          rintro e w1 ⟨rfl, rfl⟩
          go_wp2_with fail
          go_ret
          exact ⟨bool_ret HT.out, HW.out⟩
    by_cases k2 : k = 2
    · subst k2
      have e0 : mayB ⟨2, L, b, t⟩ = (decide (L.length ≤ 64) && withinB L) := by rw [HM.out]; simp
      by_cases h1 : n ≤ 64
      · have h1' : decide ((n : Int) ≤ 64) = true := by simp; omega
        have fin : (!q) = mayB ⟨2, L, b, t⟩ := by rw [e0, HI.out, decide_eq_true (by rw [← HN.out]; exact h1)]; rfl
        have HT := Lib.hid fin
        clear fin e0 h1
        rcases t4 with rfl | ⟨rfl, h0⟩
        all_goals
          go_enter Try.func37, Try.ntmps37
          go_wp2_with fail
          refine HC.out.mono ?_
          rintro e w1 ⟨rfl, rfl⟩
          go_wp2_with fail
          go_ret
          exact ⟨bool_ret HT.out, HW.out⟩
      · have h1' : decide ((n : Int) ≤ 64) = false := by simp; omega
        have fin : false = mayB ⟨2, L, b, t⟩ := by rw [e0, decide_eq_false (by rw [← HN.out]; exact h1)]; rfl
        have HT := Lib.hid fin
        clear fin e0 h1
        rcases t4 with rfl | ⟨rfl, h0⟩
        all_goals
          go_enter Try.func37, Try.ntmps37
          go_wp2_with fail
          refine HC.out.mono ?_
          rintro e w1 ⟨rfl, rfl⟩
          go_wp2_with fail
          go_ret
          exact ⟨bool_ret HT.out, HW.out⟩
    by_cases k3 : k = 3
    · subst k3
      have e0 : mayB ⟨3, L, b, t⟩ = (decide (L.length ≤ 64) && withinB L) := by rw [HM.out]; simp
      by_cases h1 : n ≤ 64
      · have h1' : decide ((n : Int) ≤ 64) = true := by simp; omega
        have fin : (!q) = mayB ⟨3, L, b, t⟩ := by rw [e0, HI.out, decide_eq_true (by rw [← HN.out]; exact h1)]; rfl
        have HT := Lib.hid fin
        clear fin e0 h1
        rcases t4 with rfl | ⟨rfl, h0⟩
        all_goals
          go_enter Try.func37, Try.ntmps37
          go_wp2_with fail
          refine HC.out.mono ?_
          rintro e w1 ⟨rfl, rfl⟩
          go_wp2_with fail
          go_ret
          exact ⟨bool_ret HT.out, HW.out⟩
      · have h1' : decide ((n : Int) ≤ 64) = false := by simp; omega
        have fin : false = mayB ⟨3, L, b, t⟩ := by rw [e0, decide_eq_false (by rw [← HN.out]; exact h1)]; rfl
        have HT := Lib.hid fin
        clear fin e0 h1
        rcases t4 with rfl | ⟨rfl, h0⟩
        all_goals
          go_enter Try.func37, Try.ntmps37
          go_wp2_with fail
          refine HC.out.mono ?_
          rintro e w1 ⟨rfl, rfl⟩
          go_wp2_with fail
          go_ret
          exact ⟨bool_ret HT.out, HW.out⟩
    by_cases k4 : k = 4
    · subst k4
      have e0 : mayB ⟨4, L, b, t⟩ = pairsB L (-1099511627776) := by rw [HM.out]; simp
      have fin : pairsB L (-1099511627776) = mayB ⟨4, L, b, t⟩ := e0.symm
      have HT := Lib.hid fin
      have HQ := Lib.hid (HP.out (-1099511627776))
      clear fin e0 HP
      rcases t4 with rfl | ⟨rfl, h0⟩
      all_goals
        go_enter Try.func37, Try.ntmps37
        go_wp2_with fail
        refine HC.out.mono ?_
        rintro e w1 ⟨rfl, rfl⟩
        go_wp2_with fail
        refine HQ.out.mono ?_
        rintro e w2 ⟨rfl, rfl⟩
        go_wp2_with fail
        go_ret
        exact ⟨bool_ret HT.out, HW.out⟩
    by_cases k5 : k = 5
    · subst k5
      have e0 : mayB ⟨5, L, b, t⟩ = pairsB L 0 := by rw [HM.out]; simp
      have fin : pairsB L 0 = mayB ⟨5, L, b, t⟩ := e0.symm
      have HT := Lib.hid fin
      have HQ := Lib.hid (HP.out 0)
      clear fin e0 HP
      rcases t4 with rfl | ⟨rfl, h0⟩
      all_goals
        go_enter Try.func37, Try.ntmps37
        go_wp2_with fail
        refine HC.out.mono ?_
        rintro e w1 ⟨rfl, rfl⟩
        go_wp2_with fail
        refine HQ.out.mono ?_
        rintro e w2 ⟨rfl, rfl⟩
        go_wp2_with fail
        go_ret
        exact ⟨bool_ret HT.out, HW.out⟩
    have fin : false = mayB ⟨k, L, b, t⟩ := by rw [HM.out, if_neg (by omega), if_neg (by omega), if_neg k4, if_neg k5]
    have HT := Lib.hid fin
    have g0' : (k == 0) = false := by simpa using k0
    have g1' : (k == 1) = false := by simpa using k1
    have g2' : (k == 2) = false := by simpa using k2
    have g3' : (k == 3) = false := by simpa using k3
    have g4' : (k == 4) = false := by simpa using k4
    have g5' : (k == 5) = false := by simpa using k5
    clear fin k0 k1 k2 k3 k4 k5
    rcases t4 with rfl | ⟨rfl, h0⟩
    all_goals
      go_enter Try.func37, Try.ntmps37
      go_wp2_with fail
      refine HC.out.mono ?_
      rintro e w1 ⟨rfl, rfl⟩
      go_wp2_with fail
      go_ret
      exact ⟨bool_ret HT.out, HW.out⟩
theorem o_may {w : World} {vl : Value} (s : St) (hx : Rd w vl s.L) (_ : s.L.length ≤ 17592186044416) :
    Calls Try.prog 37 #[.agg #[.int .i64 s.kind, vl, .bool s.isSealed, .int .i64 s.to]] w (Tells w (mayB s)) := o_may_any s hx
end Go.Proofs.Ytjfenjnnpikkdaa
