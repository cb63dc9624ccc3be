/-
  Package objs: the walk of store.
-/
import Derived.Test.YtaoagaokocnehaaOw6b
import Derived.Test.YtaoagaokocnehaaOw6c
namespace Go.Proofs.Ytaoagaokocnehaa
set_option linter.unusedVariables false
set_option linter.unusedSimpArgs false
open Go.RowKit

set_option maxRecDepth 100000 in
set_option maxHeartbeats 6400000 in
theorem o_store {w : World} {vl : Value} (s : St) (o : Op3) (hx : Rd w vl s.L) (hk : s.kind = 4) (hm : mayB s = true) :
    Calls Try.prog 29 #[.agg #[.int .i64 s.kind, vl, .bool s.isSealed, .int .i64 s.to], .agg #[.int .i64 o.code, .int .i64 o.a, .int .i64 o.b]] w (StepP w vl (storeS s o)) := by
  obtain ⟨hev, h128⟩ := may_pairs (.inl hk) hm
  obtain ⟨k, L, b, t⟩ := s
  obtain ⟨co, oa, ob⟩ := o
  simp only at hx hk hev h128 hm ⊢
  subst hk
  obtain ⟨n, a, c, hvl, hn⟩ : ∃ n a c, vl = .slice a n c ∧ n = L.length := by
    obtain ⟨a, c, e, _⟩ := hx
    exact ⟨_, a, c, e, rfl⟩
  subst hvl
  have HX := Lib.hid hx
  have HN := Lib.hid hn
  have HS : Hid (∀ (r : Int) (W : World), Below w.heap.size w W → StepP w (.slice a n c) (⟨4, L, b, t⟩, r) (.returned (.tuple #[.agg #[.int .i64 4, .slice a n c, .bool b, .int .i64 t], .int .i64 r])) W) := fun r W hB => stepp_same HX.out hB
  have HH := fun W (hB : Below w.heap.size w W) => Lib.hid (o_has (w := W) (HX.out.below hB (Nat.le_refl _)) (by omega) hev oa)
  have HFi := fun W (hB : Below w.heap.size w W) => Lib.hid (o_find (w := W) (HX.out.below hB (Nat.le_refl _)) (by omega) oa)
  have HC := fun W (hB : Below w.heap.size w W) => Lib.hid (sl_clone (w := W) (HX.out.below hB (Nat.le_refl _)) (by omega))
  have HP := fun W (hB : Below w.heap.size w W) => Lib.hid (o_put (w := W) (HX.out.below hB (Nat.le_refl _)) (by omega) hev oa (cutI ob))
  have HCa := fun W => Lib.hid (o_cut' ob W)
  have hlt : foundB L oa = true → findI L oa + 1 < n := fun hf => by rw [hn]; exact found_lt hf hev
  have hn' : n ≤ 128 := by omega
  clear hx hm hn hev h128
  by_cases hc : co = 7 ∨ co = 6 ∨ co = 5
  · by_cases ha : 0 ≤ oa ∧ oa ≤ 255
    · obtain ⟨a1, a2⟩ := ha
      have hna : ¬ (oa < 0 ∨ 255 < oa) := by omega
      have n1 : ¬ oa < 0 := by omega
      have n2 : ¬ 255 < oa := by omega
      by_cases c6 : co = 6
      · by_cases hf : foundB L oa = true
        · have hr : storeS ⟨4, L, b, t⟩ ⟨co, oa, ob⟩ = ((⟨4, delL L oa, b, t⟩ : St), hasI L oa) := by simp [storeS, c6, hna, hf]
          rw [hr]
          subst c6
          have hl := hlt hf
          rw [hf] at HFi
          have hd : delL L oa = L.take (findI L oa) ++ L.drop (findI L oa + 2) := rfl
          rw [hd]
          generalize hasI L oa = had at *
          generalize findI L oa = j at *
          clear hr hd hf hlt HS HP HCa hc hna
          go_enter Try.func29, Try.ntmps29
          go_wp2_with fail
          refine (HH _ (below3 w _ _ _)).out.mono ?_
          rintro e w1 ⟨rfl, q, rfl⟩
          go_wp2_with fail
          refine (HFi _ (below3d w _ _ _ _)).out.mono ?_
          rintro e w1 ⟨rfl, q2, rfl⟩
          go_wp2_with fail
          refine (HC _ (below3d w _ _ _ _)).out.mono ?_
          rintro e w2 ⟨v2, rfl, hown, hfr, hb2'⟩
          rw [← HN.out] at hown
          obtain ⟨g, c2, rfl, g1, g2⟩ := own_open hown (by omega)
          have HO2 := Lib.hid hown
          have HFR := Lib.hid (hfr g rfl)
          have HB2 := Lib.hid hb2'
          clear hown hfr hb2' HC
          go_wp2_with fail
          refine (sl_delete HO2.out j (j + 2) (by omega) (by omega)).mono ?_
          rintro e w4 ⟨rfl, hown4, hk4⟩
          have hB4 := below_undrew ((HB2.out.mono (by simp : w.heap.size + 1 + 1 + 1 ≤ _)).trans (hk4.below (by rintro q rfl; have := HFR.out; simpa using this) (by have := HB2.out.size; simpa using this)))
          have hle : j + (n - (j + 2)) = n - 2 := by omega
          have HO4 := Lib.hid hown4
          clear hown4 hk4
          obtain ⟨b0, b1, b2, hz4, hb4⟩ := box_facts hB4
          have hk0 : w4.cell? ⟨w.heap.size, 0, none⟩ = some (.int .i64 4) := by rw [b0.cell]; rfl
          have hk1 : w4.cell? ⟨w.heap.size, 1, none⟩ = some (.slice a n c) := by rw [b0.cell]; rfl
          have hk2 : w4.cell? ⟨w.heap.size, 2, none⟩ = some (.bool b) := by rw [b0.cell]; rfl
          have hk3 : w4.cell? ⟨w.heap.size, 3, none⟩ = some (.int .i64 t) := by rw [b0.cell]; rfl
          have ho0 : w4.cell? ⟨w.heap.size + 1, 0, none⟩ = some (.int .i64 6) := by rw [b1.cell]; rfl
          have ho1 : w4.cell? ⟨w.heap.size + 1, 1, none⟩ = some (.int .i64 oa) := by rw [b1.cell]; rfl
          have ho2 : w4.cell? ⟨w.heap.size + 1, 2, none⟩ = some (.int .i64 ob) := by rw [b1.cell]; rfl
          have hr0 : w4.cell? ⟨w.heap.size + 1 + 1, 0, none⟩ = some (.int .i64 0) := by rw [b2.cell]; rfl
          have hr1 : w4.cell? ⟨w.heap.size + 1 + 1, 1, none⟩ = some (.slice none 0 0) := by rw [b2.cell]; rfl
          have hr2 : w4.cell? ⟨w.heap.size + 1 + 1, 2, none⟩ = some (.bool false) := by rw [b2.cell]; rfl
          have hr3 : w4.cell? ⟨w.heap.size + 1 + 1, 3, none⟩ = some (.int .i64 0) := by rw [b2.cell]; rfl
          have hfz0 := b0.frozen 1
          have hfr0 := b2.frozen 0
          have hfr1 := b2.frozen 1
          have hfr2 := b2.frozen 2
          have hfr3 := b2.frozen 3
          have B0 := Lib.hid b0
          have B2 := Lib.hid b2
          have HB4 := Lib.hid hb4
          clear b0 b1 b2 hB4 hb4
          go_wp2_with fail
          refine bodyPost_ret (v := .tuple #[.agg #[.int .i64 4, .slice (some ⟨g, 0, none⟩) (n - 2) c2, .bool b, .int .i64 t], .int .i64 had]) ?_ rfl ?_
          · simp [results, Try.results29, go_sem, hr0, hr1, hr2, hr3]
          · rw [hle] at HO4
            exact stepp_own B0.out B2.out (sets_keeps _ _ _ _ _ _ _ _) HB4.out (Nat.le_refl _) (by omega) HO4.out (fresh_some (by have := HFR.out; simp at this; omega)) _ _ _ _
        · have hf' : foundB L oa = false := by simpa using hf
          have hr : storeS ⟨4, L, b, t⟩ ⟨co, oa, ob⟩ = ((⟨4, L, b, t⟩ : St), hasI L oa) := by simp [storeS, c6, hna, hf]
          rw [hr]
          subst c6
          rw [hf'] at HFi
          generalize hasI L oa = had at *
          generalize findI L oa = j at *
          clear hr hf hf' hlt HC HP HCa hc hna
          go_enter Try.func29, Try.ntmps29
          go_wp2_with fail
          refine (HH _ (below3 w _ _ _)).out.mono ?_
          rintro e w1 ⟨rfl, q, rfl⟩
          go_wp2_with fail
          refine (HFi _ (below3d w _ _ _ _)).out.mono ?_
          rintro e w1 ⟨rfl, q2, rfl⟩
          go_wp2_with fail
          refine bodyPost_ret (v := .tuple #[.agg #[.int .i64 4, .slice a n c, .bool b, .int .i64 t], .int .i64 had]) ?_ rfl ?_
          · simp [results, Try.results29, go_sem]
          · exact HS.out _ _ (below_res (below3d w _ _ _ _) _ (by omega) _ _ _ _)
      · by_cases c5 : co = 5
        · subst c5
          cases hpb : putB L oa
          · have hr : storeS ⟨4, L, b, t⟩ ⟨5, oa, ob⟩ = ((⟨4, L, b, t⟩ : St), -2) := by simp [storeS, hna, hpb]
            rw [hr]
            rw [hpb] at HP
            exact o_store_no n1 n2 HX HH HFi HP HCa
          · have hr : storeS ⟨4, L, b, t⟩ ⟨5, oa, ob⟩ = ((⟨4, putL L oa (cutI ob), b, t⟩ : St), hasI L oa) := by simp [storeS, hna, hpb]
            rw [hr]
            rw [hpb] at HP
            exact o_store_yes n1 n2 HX HH HFi HP HCa
        · have hc7 : co = 7 := by omega
          have hr : storeS ⟨4, L, b, t⟩ ⟨co, oa, ob⟩ = ((⟨4, L, b, t⟩ : St), hasI L oa) := by simp [storeS, hc7, hna]
          rw [hr]
          subst hc7
          generalize foundB L oa = fd at *
          generalize hasI L oa = had at *
          generalize findI L oa = j at *
          clear hr hlt HC HP HCa hc hna c5 c6
          go_enter Try.func29, Try.ntmps29
          go_wp2_with fail
          refine (HH _ (below3 w _ _ _)).out.mono ?_
          rintro e w1 ⟨rfl, q, rfl⟩
          go_wp2_with fail
          refine (HFi _ (below3d w _ _ _ _)).out.mono ?_
          rintro e w1 ⟨rfl, q2, rfl⟩
          go_wp2_with fail
          refine bodyPost_ret (v := .tuple #[.agg #[.int .i64 4, .slice a n c, .bool b, .int .i64 t], .int .i64 had]) ?_ rfl ?_
          · simp [results, Try.results29, go_sem]
          · exact HS.out _ _ (below_res (below3d w _ _ _ _) _ (by omega) _ _ _ _)
    · have hna : oa < 0 ∨ 255 < oa := by omega
      have hr : storeS ⟨4, L, b, t⟩ ⟨co, oa, ob⟩ = ((⟨4, L, b, t⟩ : St), -1) := by simp [storeS, hc, hna]
      rw [hr]
      have h2 : oa < 0 ∨ (¬ oa < 0 ∧ 255 < oa) := by omega
      clear hr hlt HC HP HCa hna ha HH HFi
      rcases hc with rfl | rfl | rfl <;> rcases h2 with h1 | ⟨h1, h2⟩
      all_goals
        go_enter Try.func29, Try.ntmps29
        go_wp2_with fail
        refine bodyPost_ret (v := .tuple #[.agg #[.int .i64 4, .slice a n c, .bool b, .int .i64 t], .int .i64 (-1)]) ?_ rfl ?_
        · simp [results, Try.results29, go_sem]
        · exact HS.out _ _ (below3 w _ _ _)
  · have hr : storeS ⟨4, L, b, t⟩ ⟨co, oa, ob⟩ = ((⟨4, L, b, t⟩ : St), 0) := by simp [storeS, hc]
    rw [hr]
    have g7 : (co == 7) = false := by simp; omega
    have g6 : (co == 6) = false := by simp; omega
    have g5 : (co == 5) = false := by simp; omega
    clear hr hlt HC HP HCa hc HH HFi
    go_enter Try.func29, Try.ntmps29
    go_wp2_with fail
    refine bodyPost_ret (v := .tuple #[.agg #[.int .i64 4, .slice a n c, .bool b, .int .i64 t], .int .i64 0]) ?_ rfl ?_
    · simp [results, Try.results29, go_sem]
    · exact HS.out _ _ (below3 w _ _ _)
end Go.Proofs.Ytaoagaokocnehaa
