/-
  Package objs: the walks of has, put, May, Fits, Same.
-/
import Derived.Test.YtaoagaokocnehaaOw1
namespace Go.Proofs.Ytaoagaokocnehaa
set_option linter.unusedVariables false
set_option linter.unusedSimpArgs false
open Go.RowKit

theorem below_drewN (w : World) (q : Nat) : Below w.heap.size w (w.drewN q) := ⟨rfl, rfl, rfl, Nat.le_refl _, fun _ _ => rfl⟩
theorem below_of_drewN {w w' : World} {q : Nat} (h : Below (w.drewN q).heap.size (w.drewN q) w') : Below w.heap.size w w' := ⟨h.os, h.tape, h.output, h.size, h.block⟩
theorem found_lt {xs : List Int} {key : Int} (h : foundB xs key = true) (he : xs.length % 2 = 0) : findI xs key + 1 < xs.length := by
  unfold foundB at h
  simp only [Bool.and_eq_true, decide_eq_true_eq] at h
  have := findI_even xs key
  omega

set_option maxHeartbeats 800000 in
theorem o_has {w : World} {v : Value} {xs : List Int} (hx : Rd w v xs) (hl : xs.length ≤ 17592186044416) (he : xs.length % 2 = 0) (key : Int) :
    Calls Try.prog 44 #[v, .int .i64 key] w fun e w' => e = .returned (.int .i64 (hasI xs key)) ∧ ∃ q, w' = w.drewN q := by
  have HF := Lib.hid (o_find hx hl key)
  have HX := Lib.hid hx
  obtain ⟨a, c, rfl, _⟩ := hx
  by_cases hf : foundB xs key = true
  · have hh : hasI xs key = xs.getD (findI xs key + 1) 0 := by unfold hasI; rw [if_pos hf]
    have hlt := found_lt hf he
    rw [hh]
    rw [hf] at HF
    obtain ⟨j, hj⟩ : ∃ j, j = findI xs key := ⟨_, rfl⟩
    rw [← hj] at HF hlt ⊢
    obtain ⟨n, a', c', f, e0, hn, hnc, hcm, hfn, hv⟩ := HX.out.view
    simp at e0
    obtain ⟨rfl, hnn, rfl⟩ := e0
    obtain ⟨b, o, rfl, hb, hc⟩ := hv (by omega)
    have h2 := hc (j + 1) (by omega)
    rw [hfn] at h2
    generalize xs.getD (j + 1) 0 = x at *
    generalize xs.length = m at *
    clear hc hv hfn hj hh hn hnn HX
    go_enter Try.func44, Try.ntmps44
    go_wp2_with fail
    refine HF.out.mono ?_
    rintro e w1 ⟨rfl, q, rfl⟩
    go_wp2_with fail
    go_ret
    exact ⟨rfl, q, rfl⟩
  · have hf' : foundB xs key = false := by simpa using hf
    have hh : hasI xs key = -1 := by unfold hasI; rw [if_neg hf]
    rw [hh]
    rw [hf'] at HF
    generalize findI xs key = j at *
    clear hh hf hf' HX
    go_enter Try.func44, Try.ntmps44
    go_wp2_with fail
    refine HF.out.mono ?_
    rintro e w1 ⟨rfl, q, rfl⟩
    go_wp2_with fail
    go_ret
    exact ⟨rfl, q, rfl⟩

/-- Of a slice: its block, if it has one, lies from B on. -/
def Fresh (B : Nat) (v : Value) : Prop := ∀ k, v.ownBlock = some k → B ≤ k
theorem fresh_some {B g o n c : Nat} (h : B ≤ g) : Fresh B (.slice (some ⟨g, o, none⟩) n c) := by
  intro k hk
  simp only [Value.ownBlock, Option.some.injEq] at hk
  omega
theorem fresh_none {B n c : Nat} : Fresh B (.slice none n c) := by
  intro k hk
  simp [Value.ownBlock] at hk
theorem Fresh.mono {A B : Nat} {v : Value} (h : Fresh B v) (hb : A ≤ B) : Fresh A v := fun k hk => Nat.le_trans hb (h k hk)
/-- What put tells. -/
def PutP (w : World) (xs : List Int) (ok : Bool) (e : Ending) (w' : World) : Prop := ∃ v', e = .returned (.tuple #[v', .bool ok]) ∧ Rd w' v' xs ∧ (ok = true → Own w' 3 1 v' xs.length (ints xs) ∧ Fresh w.heap.size v') ∧ Below w.heap.size w w'

theorem putp_of {w w1 : World} {v : Value} {xs : List Int} {n : Nat} (h : Own w1 3 1 v n (ints xs)) (hb : Below w.heap.size w w1) (hfr : Fresh w.heap.size v) : PutP w xs true (.returned (.tuple #[v, .bool true])) w1 := by
  have hn : xs.length = n := by have := h.1; simpa [ints] using this
  subst hn
  exact ⟨v, rfl, own_rd h, fun _ => ⟨h, hfr⟩, hb⟩

set_option maxRecDepth 100000 in
set_option maxHeartbeats 1600000 in
theorem o_put {w : World} {v : Value} {xs : List Int} (hx : Rd w v xs) (hl : xs.length ≤ 1099511627776) (he : xs.length % 2 = 0) (key n : Int) :
    Calls Try.prog 46 #[v, .int .i64 key, .int .i64 n] w (PutP w (putL xs key n) (putB xs key)) := by
  have HF := Lib.hid (o_find hx (by omega) key)
  have HC := fun q => Lib.hid (sl_clone (hx.drewN q) (by omega))
  have HX := Lib.hid hx
  obtain ⟨a, c, rfl, _⟩ := hx
  by_cases hf : foundB xs key = true
  · have hp : putL xs key n = xs.set (findI xs key + 1) n := by unfold putL; rw [if_pos hf]
    have hb : putB xs key = true := by unfold putB; rw [hf]; rfl
    have hlt := found_lt hf he
    rw [hp, hb]
    rw [hf] at HF
    generalize findI xs key = j at *
    obtain ⟨m, hm⟩ : ∃ m, m = xs.length := ⟨_, rfl⟩
    have HM := Lib.hid hm
    rw [← hm] at hlt hl HF HC ⊢
    clear hp hb hf he HX hm
    go_enter Try.func46, Try.ntmps46
    go_wp2_with fail
    refine HF.out.mono ?_
    rintro e w1 ⟨rfl, q, rfl⟩
    go_wp2_with fail
    refine (HC q).out.mono ?_
    rintro e w2 ⟨v2, rfl, hown, hfr, hb2⟩
    replace hb2 := below_of_drewN hb2
    obtain ⟨g, c2, rfl, hc1, hc2⟩ := own_open hown (by rw [← HM.out]; omega)
    have hcell := World.ownsRow.cellAt hown (j + 1) (by rw [← HM.out]; omega)
    rw [ints_get _ _ (by rw [← HM.out]; omega)] at hcell
    have hfz := World.ownsRow.frozenAt hown (j + 1)
    have hst := (World.ownsRow.stored hown (j + 1) (.int .i64 n)).1
    rw [ints_set] at hst
    have hge : w.heap.size ≤ g := hfr g rfl
    have fin := putp_of hst (w := w) (hb2.setCell (p := ⟨g, j + 1, none⟩) hge (.int .i64 n)) (fresh_some hge)
    have HT := Lib.hid fin
    generalize xs.getD (j + 1) 0 = x at hcell
    rw [← HM.out] at hc1 ⊢
    simp only [maxLen] at hc2
    clear fin hst hown hfr hb2 HC HF
    have hcc : m ≤ 9223372036854775807 := by omega
    go_wp2_with fail
    go_ret2
    exact HM.out ▸ HT.out
  · have hf' : foundB xs key = false := by simpa using hf
    rw [hf'] at HF
    by_cases h128 : 128 ≤ xs.length
    · have hp : putL xs key n = xs := by unfold putL; rw [if_neg hf, if_pos h128]
      have hb : putB xs key = false := by unfold putB; rw [hf', decide_eq_false (by omega)]; rfl
      rw [hp, hb]
      have fin : ∀ q, PutP w xs false (.returned (.tuple #[.slice a xs.length c, .bool false])) (w.drewN q) := fun q => ⟨_, rfl, HX.out.drewN q, fun h => by simp at h, below_drewN w q⟩
      have HT := Lib.hid fin
      generalize findI xs key = j at *
      obtain ⟨m, hm⟩ : ∃ m, m = xs.length := ⟨_, rfl⟩
      rw [← hm] at h128 hl HF HT ⊢
      clear hp hb hf hf' he HX hm HC fin
      go_enter Try.func46, Try.ntmps46
      go_wp2_with fail
      refine HF.out.mono ?_
      rintro e w1 ⟨rfl, q, rfl⟩
      go_wp2_with fail
      go_ret2
      exact HT.out q
    · have hp : putL xs key n = xs.take (findI xs key) ++ [key, n] ++ xs.drop (findI xs key) := by unfold putL; rw [if_neg hf, if_neg h128]
      have hb : putB xs key = true := by unfold putB; rw [hf', decide_eq_true (by omega)]; rfl
      have hle := findI_le xs key he
      rw [hp, hb]
      generalize findI xs key = j at *
      obtain ⟨m, hm⟩ : ∃ m, m = xs.length := ⟨_, rfl⟩
      have HM := Lib.hid hm
      rw [← hm] at h128 hl hle HF HC ⊢
      have HL := Lib.hid hle
      clear hp hb hf hf' he HX hm hle
      go_enter Try.func46, Try.ntmps46
      go_wp2_with fail
      refine HF.out.mono ?_
      rintro e w1 ⟨rfl, q, rfl⟩
      go_wp2_with fail
      refine (HC q).out.mono ?_
      rintro e w2 ⟨v2, rfl, hown, hfr, hb2⟩
      replace hb2 := below_of_drewN hb2
      rw [← HM.out] at hown
      have HO := Lib.hid hown
      have HFR := Lib.hid hfr
      have HB := Lib.hid hb2
      clear hown hfr hb2 HC HF
      go_wp2_with fail
      refine (sl_insert (w := w2.alloc (.cells #[.int .i64 key, .int .i64 n] 3)) (v := v2) (n := m) (i := j) (xs := xs) (own_keeps (F := fun _ => False) HO.out ((Keeps.refl _ _).alloc _) (by simp)) w2.heap.size key n (Blk.new w2 _ _) (fun e => by have := own_lt HO.out e; omega) (by omega) HL.out).mono ?_
      rintro e w3 ⟨v3, rfl, hown3, hat, hk3⟩
      have fin : PutP w (xs.take j ++ [key, n] ++ xs.drop j) true (.returned (.tuple #[v3, .bool true])) w3 := by
        have b2 : Below w.heap.size w (w2.alloc (.cells #[.int .i64 key, .int .i64 n] 3)) := HB.out.alloc HB.out.size _
        refine putp_of hown3 ?_ ?_
        · exact b2.trans (hk3.below (fun k hk => HFR.out k hk) (by have := HB.out.size; rw [World.size_alloc]; omega))
        · intro k hk
          have hs := HB.out.size
          rcases hat with e | ⟨b, e, hb⟩
          · have := HFR.out k (e ▸ hk)
            simpa using this
          · rw [e] at hk
            simp only [Option.some.injEq] at hk
            rw [World.size_alloc] at hb
            omega
      have HT := Lib.hid fin
      clear fin hown3 hat hk3
      go_wp2_with fail
      go_ret2
      exact HT.out
end Go.Proofs.Ytaoagaokocnehaa
