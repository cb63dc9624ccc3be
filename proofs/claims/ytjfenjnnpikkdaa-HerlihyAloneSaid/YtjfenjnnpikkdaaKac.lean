/-
  Package objs: the walk of store.
-/
import Derived.Deep.RegionWith
import Derived.Test.YtjfenjnnpikkdaaKa
import Derived.Test.YtjfenjnnpikkdaaKab
set_option linter.unusedVariables false
set_option linter.unusedSimpArgs false
namespace Go.Proofs.Ytjfenjnnpikkdaa
set_option maxRecDepth 100000
open Go.RowKit

theorem may_pairs {s : St} (hk : s.kind = 4 ∨ s.kind = 5) (hm : mayB s = true) : s.L.length % 2 = 0 ∧ s.L.length ≤ 128 := by
  unfold mayB at hm
  split at hm
  · simp at hm
  · rcases hk with h | h <;> simp only [h] at hm <;> simp [pairsB] at hm <;> exact ⟨hm.2.1, hm.2.2⟩

theorem below3d (w : World) (a b c : Obj) (q : Nat) : Below w.heap.size w ((((w.alloc a).alloc b).alloc c).drewN q) := (below3 w a b c).trans ⟨rfl, rfl, rfl, Nat.le_refl _, fun _ _ => rfl⟩
theorem below_undrew {n : Nat} {W w1 : World} {q : Nat} (h : Below n (W.drewN q) w1) : Below n W w1 := ⟨h.os, h.tape, h.output, h.size, h.block⟩
theorem below_res {w W : World} (h : Below w.heap.size w W) (C : Nat) (hC : w.heap.size ≤ C) (v1 v2 v3 v4 : Value) : Below w.heap.size w ((((W.setCell ⟨C, 0, none⟩ v1).setCell ⟨C, 1, none⟩ v2).setCell ⟨C, 2, none⟩ v3).setCell ⟨C, 3, none⟩ v4) :=
  (((h.setCell (p := ⟨C, 0, none⟩) hC _).setCell (p := ⟨C, 1, none⟩) hC _).setCell (p := ⟨C, 2, none⟩) hC _).setCell (p := ⟨C, 3, none⟩) hC _
end Go.Proofs.Ytjfenjnnpikkdaa
/- Package objs: the walk of store, Put (there is room). -/
namespace Go.Proofs.Ytjfenjnnpikkdaa
set_option maxRecDepth 100000
open Go.RowKit

set_option maxRecDepth 100000 in
set_option maxHeartbeats 6400000 in
theorem o_store_yes {w : World} {n c j : Nat} {a : Option Addr} {L L2 : List Int} {b fd : Bool} {t oa ob had y : Int} (n1 : ¬ oa < 0) (n2 : ¬ 255 < oa) (HX : Hid (Rd w (.slice a n c) L))
    (HH : ∀ W, Below w.heap.size w W → Hid (Calls Try.prog 84 #[.slice a n c, .int .i64 oa] W fun e w' => e = .returned (.int .i64 had) ∧ ∃ q, w' = W.drewN q))
    (HFi : ∀ W, Below w.heap.size w W → Hid (Calls Try.prog 85 #[.slice a n c, .int .i64 oa] W (FindP W j fd)))
    (HP : ∀ W, Below w.heap.size w W → Hid (Calls Try.prog 86 #[.slice a n c, .int .i64 oa, .int .i64 y] W (PutP W L2 true)))
    (HCa : ∀ W, Hid (Calls Try.prog 60 #[.int .i64 ob] W fun e w' => e = .returned (.int .i64 y) ∧ W = w')) :
    Calls Try.prog 75 #[.agg #[.int .i64 4, .slice a n c, .bool b, .int .i64 t], .agg #[.int .i64 5, .int .i64 oa, .int .i64 ob]] w (StepP w (.slice a n c) ((⟨4, L2, b, t⟩ : St), had)) := by
  go_enter Try.func75, Try.ntmps75
  go_wp2_with fail
  refine (HH _ (below3 w _ _ _)).out.mono ?_
  rintro e w1 ⟨rfl, q, rfl⟩
  go_wp2_with fail
  refine (HFi _ (below3d w _ _ _ _)).out.mono ?_
  rintro e w1 ⟨rfl, q2, rfl⟩
  go_wp2_with fail
  go_region_with (first | (go_at_call 60; refine (HCa _).out.mono ?_; rintro e w3 ⟨rfl, rfl⟩) | (go_at_call 86; refine (HP _ (below3d w _ _ _ _).drew).out.mono ?_; rintro e w4 ⟨v4, rfl, hrd, how, hb4'⟩; obtain ⟨a4, c4, rfl, _⟩ := id hrd; have HB' := Lib.hid hb4'; have HR := Lib.hid (how rfl); clear hb4' hrd how))
  all_goals
    obtain ⟨b0, b1, b2, hz4, hb4⟩ := box_facts (k := 4) (t := t) (co := 5) (oa := oa) (ob := ob) (vl := .slice a n c) (b := b) (below_undrew (q := q + q2 + 1) (HB'.out.mono (by simp : w.heap.size + 1 + 1 + 1 ≤ _)))
    have hk0 : w4.cell? ⟨w.heap.size, 0, none⟩ = some (.int .i64 4) := by rw [b0.cell]; rfl
    have hk1 : w4.cell? ⟨w.heap.size, 1, none⟩ = some (.slice a n c) := by rw [b0.cell]; rfl
    have hk2 : w4.cell? ⟨w.heap.size, 2, none⟩ = some (.bool b) := by rw [b0.cell]; rfl
    have hk3 : w4.cell? ⟨w.heap.size, 3, none⟩ = some (.int .i64 t) := by rw [b0.cell]; rfl
    have ho0 : w4.cell? ⟨w.heap.size + 1, 0, none⟩ = some (.int .i64 5) := by rw [b1.cell]; rfl
    have ho1 : w4.cell? ⟨w.heap.size + 1, 1, none⟩ = some (.int .i64 oa) := by rw [b1.cell]; rfl
    have ho2 : w4.cell? ⟨w.heap.size + 1, 2, none⟩ = some (.int .i64 ob) := by rw [b1.cell]; rfl
    have hr0 : w4.cell? ⟨w.heap.size + 1 + 1, 0, none⟩ = some (.int .i64 0) := by rw [b2.cell]; rfl
    have hr1 : w4.cell? ⟨w.heap.size + 1 + 1, 1, none⟩ = some (.slice none 0 0) := by rw [b2.cell]; rfl
    have hr2 : w4.cell? ⟨w.heap.size + 1 + 1, 2, none⟩ = some (.bool false) := by rw [b2.cell]; rfl
    have hr3 : w4.cell? ⟨w.heap.size + 1 + 1, 3, none⟩ = some (.int .i64 0) := by rw [b2.cell]; rfl
    have hfz0 := b0.frozen 1
    have hfr0 := b2.frozen 0
    have hfr1 := b2.frozen 1
    have hfr2 := b2.frozen 2
    have hfr3 := b2.frozen 3
    have B0 := Lib.hid b0
    have B2 := Lib.hid b2
    have HB4 := Lib.hid hb4
    clear b0 b1 b2 hb4 HB'
    go_wp2_with fail
    refine bodyPost_ret (v := .tuple #[.agg #[.int .i64 4, .slice a4 L2.length c4, .bool b, .int .i64 t], .int .i64 had]) ?_ rfl ?_
    · simp [results, Try.results75, go_sem, hr0, hr1, hr2, hr3]
    · exact stepp_own B0.out B2.out (sets_keeps _ _ _ _ _ _ _ _) HB4.out (Nat.le_refl _) (by omega) HR.out.1 (HR.out.2.mono (below3d w _ _ _ _).drew.size) _ _ _ _
end Go.Proofs.Ytjfenjnnpikkdaa
/- Package objs: the walk of store, Put (there is no room). -/
namespace Go.Proofs.Ytjfenjnnpikkdaa
set_option maxRecDepth 100000
open Go.RowKit

set_option maxRecDepth 100000 in
set_option maxHeartbeats 6400000 in
theorem o_store_no {w : World} {n c j : Nat} {a : Option Addr} {L L2 : List Int} {b fd : Bool} {t oa ob had y : Int} (n1 : ¬ oa < 0) (n2 : ¬ 255 < oa) (HX : Hid (Rd w (.slice a n c) L))
    (HH : ∀ W, Below w.heap.size w W → Hid (Calls Try.prog 84 #[.slice a n c, .int .i64 oa] W fun e w' => e = .returned (.int .i64 had) ∧ ∃ q, w' = W.drewN q))
    (HFi : ∀ W, Below w.heap.size w W → Hid (Calls Try.prog 85 #[.slice a n c, .int .i64 oa] W (FindP W j fd)))
    (HP : ∀ W, Below w.heap.size w W → Hid (Calls Try.prog 86 #[.slice a n c, .int .i64 oa, .int .i64 y] W (PutP W L2 false)))
    (HCa : ∀ W, Hid (Calls Try.prog 60 #[.int .i64 ob] W fun e w' => e = .returned (.int .i64 y) ∧ W = w')) :
    Calls Try.prog 75 #[.agg #[.int .i64 4, .slice a n c, .bool b, .int .i64 t], .agg #[.int .i64 5, .int .i64 oa, .int .i64 ob]] w (StepP w (.slice a n c) ((⟨4, L, b, t⟩ : St), -2)) := by
  go_enter Try.func75, Try.ntmps75
  go_wp2_with fail
  refine (HH _ (below3 w _ _ _)).out.mono ?_
  rintro e w1 ⟨rfl, q, rfl⟩
  go_wp2_with fail
  refine (HFi _ (below3d w _ _ _ _)).out.mono ?_
  rintro e w1 ⟨rfl, q2, rfl⟩
  go_wp2_with fail
  go_region_with (first | (go_at_call 60; refine (HCa _).out.mono ?_; rintro e w3 ⟨rfl, rfl⟩) | (go_at_call 86; refine (HP _ (below3d w _ _ _ _).drew).out.mono ?_; rintro e w4 ⟨v4, rfl, hrd, how, hb4'⟩; obtain ⟨a4, c4, rfl, _⟩ := id hrd; have HB' := Lib.hid hb4'; clear hb4' hrd how))
  all_goals
    obtain ⟨b0, b1, b2, hz4, hb4⟩ := box_facts (k := 4) (t := t) (co := 5) (oa := oa) (ob := ob) (vl := .slice a n c) (b := b) (below_undrew (q := q + q2 + 1) (HB'.out.mono (by simp : w.heap.size + 1 + 1 + 1 ≤ _)))
    have hk0 : w4.cell? ⟨w.heap.size, 0, none⟩ = some (.int .i64 4) := by rw [b0.cell]; rfl
    have hk1 : w4.cell? ⟨w.heap.size, 1, none⟩ = some (.slice a n c) := by rw [b0.cell]; rfl
    have hk2 : w4.cell? ⟨w.heap.size, 2, none⟩ = some (.bool b) := by rw [b0.cell]; rfl
    have hk3 : w4.cell? ⟨w.heap.size, 3, none⟩ = some (.int .i64 t) := by rw [b0.cell]; rfl
    have ho0 : w4.cell? ⟨w.heap.size + 1, 0, none⟩ = some (.int .i64 5) := by rw [b1.cell]; rfl
    have ho1 : w4.cell? ⟨w.heap.size + 1, 1, none⟩ = some (.int .i64 oa) := by rw [b1.cell]; rfl
    have ho2 : w4.cell? ⟨w.heap.size + 1, 2, none⟩ = some (.int .i64 ob) := by rw [b1.cell]; rfl
    have hr0 : w4.cell? ⟨w.heap.size + 1 + 1, 0, none⟩ = some (.int .i64 0) := by rw [b2.cell]; rfl
    have hr1 : w4.cell? ⟨w.heap.size + 1 + 1, 1, none⟩ = some (.slice none 0 0) := by rw [b2.cell]; rfl
    have hr2 : w4.cell? ⟨w.heap.size + 1 + 1, 2, none⟩ = some (.bool false) := by rw [b2.cell]; rfl
    have hr3 : w4.cell? ⟨w.heap.size + 1 + 1, 3, none⟩ = some (.int .i64 0) := by rw [b2.cell]; rfl
    have hfz0 := b0.frozen 1
    have hfr0 := b2.frozen 0
    have hfr1 := b2.frozen 1
    have hfr2 := b2.frozen 2
    have hfr3 := b2.frozen 3
    have B0 := Lib.hid b0
    have B2 := Lib.hid b2
    have HB4 := Lib.hid hb4
    clear b0 b1 b2 hb4 HB'
    go_wp2_with fail
    refine bodyPost_ret (v := .tuple #[.agg #[.int .i64 4, .slice a n c, .bool b, .int .i64 t], .int .i64 (-2)]) ?_ rfl ?_
    · simp [results, Try.results75, go_sem, hr0, hr1, hr2, hr3]
    · exact stepp_same HX.out (below_res HB4.out _ (by omega) _ _ _ _)
end Go.Proofs.Ytjfenjnnpikkdaa
/- Package objs: the walk of store. -/
namespace Go.Proofs.Ytjfenjnnpikkdaa
set_option maxRecDepth 100000
open Go.RowKit

set_option maxRecDepth 100000 in
set_option maxHeartbeats 6400000 in
theorem o_store {w : World} {vl : Value} (s : St) (o : Op3) (hx : Rd w vl s.L) (hk : s.kind = 4) (hm : mayB s = true) :
    Calls Try.prog 75 #[.agg #[.int .i64 s.kind, vl, .bool s.isSealed, .int .i64 s.to], .agg #[.int .i64 o.code, .int .i64 o.a, .int .i64 o.b]] w (StepP w vl (storeS s o)) := by
  obtain ⟨hev, h128⟩ := may_pairs (.inl hk) hm
  obtain ⟨k, L, b, t⟩ := s
  obtain ⟨co, oa, ob⟩ := o
  simp only at hx hk hev h128 hm ⊢
  subst hk
  obtain ⟨n, a, c, hvl, hn⟩ : ∃ n a c, vl = .slice a n c ∧ n = L.length := by
    obtain ⟨a, c, e, _⟩ := hx
    exact ⟨_, a, c, e, rfl⟩
  subst hvl
  have HX := Lib.hid hx
  have HN := Lib.hid hn
  have HS : Hid (∀ (r : Int) (W : World), Below w.heap.size w W → StepP w (.slice a n c) (⟨4, L, b, t⟩, r) (.returned (.tuple #[.agg #[.int .i64 4, .slice a n c, .bool b, .int .i64 t], .int .i64 r])) W) := fun r W hB => stepp_same HX.out hB
  have HH := fun W (hB : Below w.heap.size w W) => Lib.hid (o_has (w := W) (HX.out.below hB (Nat.le_refl _)) (by omega) hev oa)
  have HFi := fun W (hB : Below w.heap.size w W) => Lib.hid (o_find (w := W) (HX.out.below hB (Nat.le_refl _)) (by omega) oa)
  have HC := fun W (hB : Below w.heap.size w W) => Lib.hid (sl_clone (w := W) (HX.out.below hB (Nat.le_refl _)) (by omega))
  have HP := fun W (hB : Below w.heap.size w W) => Lib.hid (o_put (w := W) (HX.out.below hB (Nat.le_refl _)) (by omega) hev oa (cutI ob))
  have HCa := fun W => Lib.hid (o_cut' ob W)
  have hlt : foundB L oa = true → findI L oa + 1 < n := fun hf => by rw [hn]; exact found_lt hf hev
  have hn' : n ≤ 128 := by omega
  clear hx hm hn hev h128
  by_cases hc : co = 7 ∨ co = 6 ∨ co = 5
  · by_cases ha : 0 ≤ oa ∧ oa ≤ 255
    · obtain ⟨a1, a2⟩ := ha
      have hna : ¬ (oa < 0 ∨ 255 < oa) := by omega
      have n1 : ¬ oa < 0 := by omega
      have n2 : ¬ 255 < oa := by omega
      by_cases c6 : co = 6
      · by_cases hf : foundB L oa = true
        · have hr : storeS ⟨4, L, b, t⟩ ⟨co, oa, ob⟩ = ((⟨4, delL L oa, b, t⟩ : St), hasI L oa) := by simp [storeS, c6, hna, hf]
          rw [hr]
          subst c6
          have hl := hlt hf
          rw [hf] at HFi
          have hd : delL L oa = L.take (findI L oa) ++ L.drop (findI L oa + 2) := rfl
          rw [hd]
          generalize hasI L oa = had at *
          generalize findI L oa = j at *
          clear hr hd hf hlt HS HP HCa hc hna
          go_enter Try.func75, Try.ntmps75
          go_wp2_with fail
          refine (HH _ (below3 w _ _ _)).out.mono ?_
          rintro e w1 ⟨rfl, q, rfl⟩
          go_wp2_with fail
          refine (HFi _ (below3d w _ _ _ _)).out.mono ?_
          rintro e w1 ⟨rfl, q2, rfl⟩
          go_wp2_with fail
          refine (HC _ (below3d w _ _ _ _)).out.mono ?_
          rintro e w2 ⟨v2, rfl, hown, hfr, hb2'⟩
          rw [← HN.out] at hown
          obtain ⟨g, c2, rfl, g1, g2⟩ := own_open hown (by omega)
          have HO2 := Lib.hid hown
          have HFR := Lib.hid (hfr g rfl)
          have HB2 := Lib.hid hb2'
          clear hown hfr hb2' HC
          go_wp2_with fail
          refine (sl_delete HO2.out j (j + 2) (by omega) (by omega)).mono ?_
          rintro e w4 ⟨rfl, hown4, hk4⟩
          have hB4 := below_undrew ((HB2.out.mono (by simp : w.heap.size + 1 + 1 + 1 ≤ _)).trans (hk4.below (by rintro q rfl; have := HFR.out; simpa using this) (by have := HB2.out.size; simpa using this)))
          have hle : j + (n - (j + 2)) = n - 2 := by omega
          have HO4 := Lib.hid hown4
          clear hown4 hk4
          obtain ⟨b0, b1, b2, hz4, hb4⟩ := box_facts hB4
          have hk0 : w4.cell? ⟨w.heap.size, 0, none⟩ = some (.int .i64 4) := by rw [b0.cell]; rfl
          have hk1 : w4.cell? ⟨w.heap.size, 1, none⟩ = some (.slice a n c) := by rw [b0.cell]; rfl
          have hk2 : w4.cell? ⟨w.heap.size, 2, none⟩ = some (.bool b) := by rw [b0.cell]; rfl
          have hk3 : w4.cell? ⟨w.heap.size, 3, none⟩ = some (.int .i64 t) := by rw [b0.cell]; rfl
          have ho0 : w4.cell? ⟨w.heap.size + 1, 0, none⟩ = some (.int .i64 6) := by rw [b1.cell]; rfl
          have ho1 : w4.cell? ⟨w.heap.size + 1, 1, none⟩ = some (.int .i64 oa) := by rw [b1.cell]; rfl
          have ho2 : w4.cell? ⟨w.heap.size + 1, 2, none⟩ = some (.int .i64 ob) := by rw [b1.cell]; rfl
          have hr0 : w4.cell? ⟨w.heap.size + 1 + 1, 0, none⟩ = some (.int .i64 0) := by rw [b2.cell]; rfl
          have hr1 : w4.cell? ⟨w.heap.size + 1 + 1, 1, none⟩ = some (.slice none 0 0) := by rw [b2.cell]; rfl
          have hr2 : w4.cell? ⟨w.heap.size + 1 + 1, 2, none⟩ = some (.bool false) := by rw [b2.cell]; rfl
          have hr3 : w4.cell? ⟨w.heap.size + 1 + 1, 3, none⟩ = some (.int .i64 0) := by rw [b2.cell]; rfl
          have hfz0 := b0.frozen 1
          have hfr0 := b2.frozen 0
          have hfr1 := b2.frozen 1
          have hfr2 := b2.frozen 2
          have hfr3 := b2.frozen 3
          have B0 := Lib.hid b0
          have B2 := Lib.hid b2
          have HB4 := Lib.hid hb4
          clear b0 b1 b2 hB4 hb4
          go_wp2_with fail
          refine bodyPost_ret (v := .tuple #[.agg #[.int .i64 4, .slice (some ⟨g, 0, none⟩) (n - 2) c2, .bool b, .int .i64 t], .int .i64 had]) ?_ rfl ?_
          · simp [results, Try.results75, go_sem, hr0, hr1, hr2, hr3]
          · rw [hle] at HO4
            exact stepp_own B0.out B2.out (sets_keeps _ _ _ _ _ _ _ _) HB4.out (Nat.le_refl _) (by omega) HO4.out (fresh_some (by have := HFR.out; simp at this; omega)) _ _ _ _
        · have hf' : foundB L oa = false := by simpa using hf
          have hr : storeS ⟨4, L, b, t⟩ ⟨co, oa, ob⟩ = ((⟨4, L, b, t⟩ : St), hasI L oa) := by simp [storeS, c6, hna, hf]
          rw [hr]
          subst c6
          rw [hf'] at HFi
          generalize hasI L oa = had at *
          generalize findI L oa = j at *
          clear hr hf hf' hlt HC HP HCa hc hna
          go_enter Try.func75, Try.ntmps75
          go_wp2_with fail
          refine (HH _ (below3 w _ _ _)).out.mono ?_
          rintro e w1 ⟨rfl, q, rfl⟩
          go_wp2_with fail
          refine (HFi _ (below3d w _ _ _ _)).out.mono ?_
          rintro e w1 ⟨rfl, q2, rfl⟩
          go_wp2_with fail
          refine bodyPost_ret (v := .tuple #[.agg #[.int .i64 4, .slice a n c, .bool b, .int .i64 t], .int .i64 had]) ?_ rfl ?_
          · simp [results, Try.results75, go_sem]
          · exact HS.out _ _ (below_res (below3d w _ _ _ _) _ (by omega) _ _ _ _)
      · by_cases c5 : co = 5
        · subst c5
          cases hpb : putB L oa
          · have hr : storeS ⟨4, L, b, t⟩ ⟨5, oa, ob⟩ = ((⟨4, L, b, t⟩ : St), -2) := by simp [storeS, hna, hpb]
            rw [hr]
            rw [hpb] at HP
            exact o_store_no n1 n2 HX HH HFi HP HCa
          · have hr : storeS ⟨4, L, b, t⟩ ⟨5, oa, ob⟩ = ((⟨4, putL L oa (cutI ob), b, t⟩ : St), hasI L oa) := by simp [storeS, hna, hpb]
            rw [hr]
            rw [hpb] at HP
            exact o_store_yes n1 n2 HX HH HFi HP HCa
        · have hc7 : co = 7 := by omega
          have hr : storeS ⟨4, L, b, t⟩ ⟨co, oa, ob⟩ = ((⟨4, L, b, t⟩ : St), hasI L oa) := by simp [storeS, hc7, hna]
          rw [hr]
          subst hc7
          generalize foundB L oa = fd at *
          generalize hasI L oa = had at *
          generalize findI L oa = j at *
          clear hr hlt HC HP HCa hc hna c5 c6
          go_enter Try.func75, Try.ntmps75
          go_wp2_with fail
          refine (HH _ (below3 w _ _ _)).out.mono ?_
          rintro e w1 ⟨rfl, q, rfl⟩
          go_wp2_with fail
          refine (HFi _ (below3d w _ _ _ _)).out.mono ?_
          rintro e w1 ⟨rfl, q2, rfl⟩
          go_wp2_with fail
          refine bodyPost_ret (v := .tuple #[.agg #[.int .i64 4, .slice a n c, .bool b, .int .i64 t], .int .i64 had]) ?_ rfl ?_
          · simp [results, Try.results75, go_sem]
          · exact HS.out _ _ (below_res (below3d w _ _ _ _) _ (by omega) _ _ _ _)
    · have hna : oa < 0 ∨ 255 < oa := by omega
      have hr : storeS ⟨4, L, b, t⟩ ⟨co, oa, ob⟩ = ((⟨4, L, b, t⟩ : St), -1) := by simp [storeS, hc, hna]
      rw [hr]
      have h2 : oa < 0 ∨ (¬ oa < 0 ∧ 255 < oa) := by omega
      clear hr hlt HC HP HCa hna ha HH HFi
      rcases hc with rfl | rfl | rfl <;> rcases h2 with h1 | ⟨h1, h2⟩
      all_goals
        go_enter Try.func75, Try.ntmps75
        go_wp2_with fail
        refine bodyPost_ret (v := .tuple #[.agg #[.int .i64 4, .slice a n c, .bool b, .int .i64 t], .int .i64 (-1)]) ?_ rfl ?_
        · simp [results, Try.results75, go_sem]
        · exact HS.out _ _ (below3 w _ _ _)
  · have hr : storeS ⟨4, L, b, t⟩ ⟨co, oa, ob⟩ = ((⟨4, L, b, t⟩ : St), 0) := by simp [storeS, hc]
    rw [hr]
    have g7 : (co == 7) = false := by simp; omega
    have g6 : (co == 6) = false := by simp; omega
    have g5 : (co == 5) = false := by simp; omega
    clear hr hlt HC HP HCa hc HH HFi
    go_enter Try.func75, Try.ntmps75
    go_wp2_with fail
    refine bodyPost_ret (v := .tuple #[.agg #[.int .i64 4, .slice a n c, .bool b, .int .i64 t], .int .i64 0]) ?_ rfl ?_
    · simp [results, Try.results75, go_sem]
    · exact HS.out _ _ (below3 w _ _ _)
end Go.Proofs.Ytjfenjnnpikkdaa
/- Pairs in plain Lean: find, has, put, delete by recursion. -/
namespace Go.Proofs.Ytjfenjnnpikkdaa
set_option maxRecDepth 100000

theorem foundB_cons (k v : Int) (r : List Int) (key : Int) : foundB (k :: v :: r) key = if k < key then foundB r key else k == key := by
  unfold foundB
  rw [findI]
  by_cases h : k < key
  · rw [if_pos h, if_pos h]
    have e : 2 + findI r key = findI r key + 1 + 1 := by omega
    simp only [e, List.length_cons, List.getD_cons_succ, Nat.add_lt_add_iff_right]
  · rw [if_neg h, if_neg h]
    simp
theorem foundB_nil (key : Int) : foundB [] key = false := by simp [foundB, findI]
theorem hasI_cons (k v : Int) (r : List Int) (key : Int) : hasI (k :: v :: r) key = if k < key then hasI r key else if k = key then v else -1 := by
  unfold hasI
  rw [foundB_cons, findI]
  by_cases h : k < key
  · rw [if_pos h, if_pos h, if_pos h]
    have e : 2 + findI r key = findI r key + 1 + 1 := by omega
    simp only [e, List.getD_cons_succ]
  · rw [if_neg h, if_neg h, if_neg h]
    simp only [List.getD_cons_zero, List.getD_cons_succ, Nat.zero_add]
    by_cases h2 : k = key
    · simp [h2]
    · simp [h2]
theorem hasI_nil (key : Int) : hasI [] key = -1 := by simp [hasI, foundB, findI]
theorem hasI_one (k key : Int) : hasI [k] key = if k < key then -1 else if k = key then 0 else -1 := by
  unfold hasI foundB
  rw [findI]
  by_cases h : k < key
  · simp [h]
  · simp [h]

/-- put by recursion. -/
def putR : List Int → Int → Int → List Int
  | k :: v :: r, key, n => if k < key then k :: v :: putR r key n else if k = key then k :: n :: r else key :: n :: k :: v :: r
  | _, key, n => [key, n]
def delR : List Int → Int → List Int
  | k :: v :: r, key => if k < key then k :: v :: delR r key else r
  | l, _ => l

theorem putG (key n : Int) : ∀ l : List Int, l.length % 2 = 0 → (if foundB l key then l.set (findI l key + 1) n else l.take (findI l key) ++ [key, n] ++ l.drop (findI l key)) = putR l key n
  | k :: v :: r, h => by
    have ih := putG key n r (by simp at h; omega)
    rw [foundB_cons, findI, putR]
    by_cases c : k < key
    · rw [if_pos c, if_pos c, if_pos c, ← ih]
      have e : 2 + findI r key = findI r key + 1 + 1 := by omega
      rw [e]
      split <;> simp
    · rw [if_neg c, if_neg c, if_neg c]
      by_cases h2 : k = key
      · simp [h2]
      · simp [h2]
  | [k], h => by simp at h
  | [], _ => by simp [foundB_nil, findI, putR]
theorem putL_eq {l : List Int} {key n : Int} (he : l.length % 2 = 0) (hb : putB l key = true) : putL l key n = putR l key n := by
  rw [← putG key n l he]
  unfold putL
  unfold putB at hb
  by_cases hf : foundB l key = true
  · rw [if_pos hf, if_pos hf]
  · rw [if_neg hf, if_neg hf]
    have : ¬ 128 ≤ l.length := by simp [hf] at hb; omega
    rw [if_neg this]
theorem delL_eq {l : List Int} {key : Int} (he : l.length % 2 = 0) : delL l key = delR l key := by
  unfold delL
  match l, he with
  | k :: v :: r, h =>
    have ih := delL_eq (l := r) (key := key) (by simp at h; omega)
    unfold delL at ih
    rw [findI, delR]
    by_cases c : k < key
    · rw [if_pos c, if_pos c, ← ih]
      have e : 2 + findI r key = findI r key + 1 + 1 := by omega
      simp [e]
    · rw [if_neg c, if_neg c]
      simp
  | [k], h => simp at h
  | [], _ => rfl
theorem putR_length (key n : Int) : ∀ l : List Int, l.length % 2 = 0 → (putR l key n).length = if foundB l key then l.length else l.length + 2
  | k :: v :: r, h => by
    have ih := putR_length key n r (by simp at h; omega)
    rw [foundB_cons, putR]
    by_cases c : k < key
    · rw [if_pos c, if_pos c]
      simp only [List.length_cons, ih]
      split <;> omega
    · rw [if_neg c, if_neg c]
      by_cases h2 : k = key
      · simp [h2]
      · simp [h2]
  | [k], h => by simp at h
  | [], _ => by simp [foundB_nil, putR]
theorem putR_even {key n : Int} {l : List Int} (he : l.length % 2 = 0) : (putR l key n).length % 2 = 0 := by
  rw [putR_length key n l he]
  split <;> omega
theorem found_putR (key n key2 : Int) : ∀ l : List Int, l.length % 2 = 0 → foundB (putR l key n) key2 = (key2 == key || foundB l key2)
  | k :: v :: r, h => by
    have ih := found_putR key n key2 r (by simp at h; omega)
    rw [putR, foundB_cons]
    by_cases c : k < key
    · rw [if_pos c, foundB_cons, ih]
      by_cases c2 : k < key2
      · rw [if_pos c2, if_pos c2]
      · rw [if_neg c2, if_neg c2]
        have : ¬ key2 = key := by omega
        simp [this]
    · rw [if_neg c]
      by_cases h2 : k = key
      · subst h2
        rw [if_pos rfl, foundB_cons]
        by_cases c2 : k < key2
        · rw [if_pos c2]; have : ¬ key2 = k := by omega
          simp [this]
        · rw [if_neg c2]
          by_cases h3 : k = key2 <;> simp [h3]; intro h4; exact absurd h4.symm h3
      · rw [if_neg h2, foundB_cons, foundB_cons]
        by_cases c2 : key < key2
        · rw [if_pos c2]; have : ¬ key2 = key := by omega
          simp [this]
        · rw [if_neg c2]
          by_cases h3 : key = key2
          · simp [h3]
          · have h4 : ¬ k < key2 := by omega
            have h5 : ¬ k = key2 := by omega
            have h6 : ¬ key2 = key := by omega
            rw [if_neg h4, beq_eq_false_iff_ne.2 h3, beq_eq_false_iff_ne.2 h5, beq_eq_false_iff_ne.2 h6]; rfl
  | [k], h => by simp at h
  | [], _ => by
    rw [putR, foundB_cons, foundB_nil]
    · by_cases c : key < key2
      · have : ¬ key2 = key := by omega
        simp [c, this]
      · by_cases h3 : key = key2 <;> simp [c, h3]; rw [beq_eq_false_iff_ne.2 h3, beq_eq_false_iff_ne.2 (fun e => h3 e.symm)]
    · simp
theorem has_unfound {l : List Int} {key : Int} (h : foundB l key = false) : hasI l key = -1 := by unfold hasI; rw [h]; rfl
end Go.Proofs.Ytjfenjnnpikkdaa
/- Package objs: the walk of move. -/
namespace Go.Proofs.Ytjfenjnnpikkdaa
set_option maxRecDepth 100000
open Go.RowKit

theorem pairs_has (least : Int) (hle : least ≤ 0) : ∀ (l : List Int) (last : Int), pairsGo least last l = true → ∀ key, (least ≤ hasI l key ∧ hasI l key ≤ 1099511627776) ∨ hasI l key = -1
  | k :: v :: r, last, h, key => by
    rw [pairsGo] at h
    split at h
    · simp at h
    · have ih := pairs_has least hle r k h key
      rw [hasI_cons]
      split
      · exact ih
      · split <;> omega
  | [k], last, h, key => by rw [hasI_one]; split <;> (try split) <;> omega
  | [], last, h, key => by rw [hasI_nil]; omega
theorem may_ledger {s : St} (hk : s.kind = 5) (hm : mayB s = true) (key : Int) : -1 ≤ hasI s.L key ∧ hasI s.L key ≤ 1099511627776 := by
  unfold mayB at hm
  split at hm
  · simp at hm
  · simp only [hk] at hm
    simp [pairsB] at hm
    have := pairs_has 0 (by omega) s.L (-1) hm.1 key
    omega

theorem quiet_at {P : Program} {f : FuncId} {args : Array Value} {w : World} {n x : Nat} {v : Value}
    (h : Calls P f args (w.drewN (n + x)) fun e w' => e = .returned v ∧ ∃ q, w' = (w.drewN (n + x)).drewN q) : Calls P f args (w.drewN (n + x)) fun e w'' => e = .returned v ∧ ∃ m, w'' = w.drewN (n + m) :=
  h.mono fun _ _ ⟨he, m, hm⟩ => ⟨he, x + m, by rw [hm, World.drewN_drewN, Nat.add_assoc]⟩

set_option maxRecDepth 100000 in
set_option maxHeartbeats 6400000 in
theorem o_move_no {w : World} {n c : Nat} {a : Option Addr} {L : List Int} {b : Bool} {t oa ob : Int} (h : oa < 0 ∨ 65536 ≤ oa ∨ ob < 0) (HX : Hid (Rd w (.slice a n c) L)) :
    Calls Try.prog 87 #[.agg #[.int .i64 5, .slice a n c, .bool b, .int .i64 t], .agg #[.int .i64 9, .int .i64 oa, .int .i64 ob]] w (StepP w (.slice a n c) ((⟨5, L, b, t⟩ : St), 0)) := by
  have h2 : oa < 0 ∨ (¬ oa < 0 ∧ 65536 ≤ oa) ∨ (¬ oa < 0 ∧ ¬ 65536 ≤ oa ∧ ob < 0) := by omega
  clear h
  rcases h2 with h | ⟨h1, h2⟩ | ⟨h1, h2, h3⟩
  all_goals
    go_enter Try.func87, Try.ntmps87
    go_wp2_with fail
    refine bodyPost_ret (v := .tuple #[.agg #[.int .i64 5, .slice a n c, .bool b, .int .i64 t], .int .i64 0]) ?_ rfl ?_
    · simp [results, Try.results87, go_sem]
    · exact stepp_same HX.out (below3 w _ _ _)

set_option maxRecDepth 100000 in
set_option maxHeartbeats 6400000 in
theorem o_move_less {w : World} {n c : Nat} {a : Option Addr} {L : List Int} {b : Bool} {t oa ob f g hf hg : Int} (n1 : 0 ≤ oa) (n2 : oa < 65536) (n3 : 0 ≤ ob) (ef : oa / 256 = f) (eg : oa % 256 = g) (HX : Hid (Rd w (.slice a n c) L))
    (HA : ∀ W, Below w.heap.size w W → Hid (Calls Try.prog 84 #[.slice a n c, .int .i64 f] W fun e w' => e = .returned (.int .i64 hf) ∧ ∃ q, w' = W.drewN q))
    (HB : ∀ W, Below w.heap.size w W → Hid (Calls Try.prog 84 #[.slice a n c, .int .i64 g] W fun e w' => e = .returned (.int .i64 hg) ∧ ∃ q, w' = W.drewN q))
    (hl : hf < ob) :
    Calls Try.prog 87 #[.agg #[.int .i64 5, .slice a n c, .bool b, .int .i64 t], .agg #[.int .i64 9, .int .i64 oa, .int .i64 ob]] w (StepP w (.slice a n c) ((⟨5, L, b, t⟩ : St), 0)) := by
  have m1 : ¬ oa < 0 := by omega
  have m2 : ¬ 65536 ≤ oa := by omega
  have m3 : ¬ ob < 0 := by omega
  go_enter Try.func87, Try.ntmps87
  go_wp2_with fail
  go_quiet (fail)
  go_wp2_with fail
  go_quiet (first | (go_at_call 84; first | with_reducible exact quiet_at (HA _ (below3d w _ _ _ _)).out | with_reducible exact quiet_at (HB _ (below3d w _ _ _ _)).out))
  go_wp2_with fail
  refine bodyPost_ret (v := .tuple #[.agg #[.int .i64 5, .slice a n c, .bool b, .int .i64 t], .int .i64 0]) ?_ rfl ?_
  · simp [results, Try.results87, go_sem]
  · exact stepp_same HX.out (below_res (below3d w _ _ _ _) _ (by omega) _ _ _ _)

set_option maxRecDepth 100000 in
set_option maxHeartbeats 6400000 in
theorem o_move_same {w : World} {n c : Nat} {a : Option Addr} {L : List Int} {b : Bool} {t oa ob f g hf hg : Int} (n1 : 0 ≤ oa) (n2 : oa < 65536) (n3 : 0 ≤ ob) (ef : oa / 256 = f) (eg : oa % 256 = g) (HX : Hid (Rd w (.slice a n c) L))
    (HA : ∀ W, Below w.heap.size w W → Hid (Calls Try.prog 84 #[.slice a n c, .int .i64 f] W fun e w' => e = .returned (.int .i64 hf) ∧ ∃ q, w' = W.drewN q))
    (HB : ∀ W, Below w.heap.size w W → Hid (Calls Try.prog 84 #[.slice a n c, .int .i64 g] W fun e w' => e = .returned (.int .i64 hg) ∧ ∃ q, w' = W.drewN q))
    (hl : ¬ hf < ob) (hfg : (f == g) = true) :
    Calls Try.prog 87 #[.agg #[.int .i64 5, .slice a n c, .bool b, .int .i64 t], .agg #[.int .i64 9, .int .i64 oa, .int .i64 ob]] w (StepP w (.slice a n c) ((⟨5, L, b, t⟩ : St), 1)) := by
  have m1 : ¬ oa < 0 := by omega
  have m2 : ¬ 65536 ≤ oa := by omega
  have m3 : ¬ ob < 0 := by omega
  go_enter Try.func87, Try.ntmps87
  go_wp2_with fail
  go_quiet (fail)
  go_wp2_with fail
  go_quiet (first | (go_at_call 84; first | with_reducible exact quiet_at (HA _ (below3d w _ _ _ _)).out | with_reducible exact quiet_at (HB _ (below3d w _ _ _ _)).out))
  go_wp2_with fail
  refine bodyPost_ret (v := .tuple #[.agg #[.int .i64 5, .slice a n c, .bool b, .int .i64 t], .int .i64 1]) ?_ rfl ?_
  · simp [results, Try.results87, go_sem]
  · exact stepp_same HX.out (below_res (below3d w _ _ _ _) _ (by omega) _ _ _ _)

set_option maxRecDepth 100000 in
set_option maxHeartbeats 6400000 in
theorem o_move_full {w : World} {n c : Nat} {a : Option Addr} {L L1 : List Int} {b : Bool} {t oa ob f g hf hg : Int} (n1 : 0 ≤ oa) (n2 : oa < 65536) (n3 : 0 ≤ ob) (ef : oa / 256 = f) (eg : oa % 256 = g) (HX : Hid (Rd w (.slice a n c) L))
    (HA : ∀ W, Below w.heap.size w W → Hid (Calls Try.prog 84 #[.slice a n c, .int .i64 f] W fun e w' => e = .returned (.int .i64 hf) ∧ ∃ q, w' = W.drewN q))
    (HB : ∀ W, Below w.heap.size w W → Hid (Calls Try.prog 84 #[.slice a n c, .int .i64 g] W fun e w' => e = .returned (.int .i64 hg) ∧ ∃ q, w' = W.drewN q))
    (hl : ¬ hf < ob) (hfg : (f == g) = false) (hr : -1 ≤ hg) (hr1 : hg ≤ 1099511627776) (hr2 : hf ≤ 1099511627776) (y : Int) (hy : (0 ≤ hg ∧ hg + ob = y) ∨ (¬ 0 ≤ hg ∧ ob = y)) (ok : Bool) (hok : ok = false ∨ (ok = true ∧ 1099511627776 < y))
    (HP : ∀ W, Below w.heap.size w W → Hid (Calls Try.prog 86 #[.slice a n c, .int .i64 g, .int .i64 y] W (PutP W L1 ok))) :
    Calls Try.prog 87 #[.agg #[.int .i64 5, .slice a n c, .bool b, .int .i64 t], .agg #[.int .i64 9, .int .i64 oa, .int .i64 ob]] w (StepP w (.slice a n c) ((⟨5, L, b, t⟩ : St), 0)) := by
  have m1 : ¬ oa < 0 := by omega
  have m2 : ¬ 65536 ≤ oa := by omega
  have m3 : ¬ ob < 0 := by omega
  rcases hy with ⟨h0, hy⟩ | ⟨h0, rfl⟩ <;> rcases hok with rfl | ⟨rfl, hok⟩ <;> try (exfalso; omega)
  all_goals
    go_enter Try.func87, Try.ntmps87
    go_wp2_with fail
    go_quiet (fail)
    go_wp2_with fail
    go_quiet (first | (go_at_call 84; first | with_reducible exact quiet_at (HA _ (below3d w _ _ _ _)).out | with_reducible exact quiet_at (HB _ (below3d w _ _ _ _)).out))
    go_wp2_with fail
    refine (HP _ (below3d w _ _ _ _)).out.mono ?_
    rintro e w4 ⟨v4, rfl, hrd, how, hb4'⟩
    obtain ⟨a4, c4, rfl, _⟩ := id hrd
    have HB' := Lib.hid hb4'
    clear hb4' hrd how
    obtain ⟨b0, b1, b2, hz4, hb4⟩ := box_facts (k := 5) (t := t) (co := 9) (oa := oa) (ob := ob) (vl := .slice a n c) (b := b) (below_undrew (HB'.out.mono (by simp : w.heap.size + 1 + 1 + 1 ≤ _)))
    have hk0 : w4.cell? ⟨w.heap.size, 0, none⟩ = some (.int .i64 5) := by rw [b0.cell]; rfl
    have hk1 : w4.cell? ⟨w.heap.size, 1, none⟩ = some (.slice a n c) := by rw [b0.cell]; rfl
    have hk2 : w4.cell? ⟨w.heap.size, 2, none⟩ = some (.bool b) := by rw [b0.cell]; rfl
    have hk3 : w4.cell? ⟨w.heap.size, 3, none⟩ = some (.int .i64 t) := by rw [b0.cell]; rfl
    have ho0 : w4.cell? ⟨w.heap.size + 1, 0, none⟩ = some (.int .i64 9) := by rw [b1.cell]; rfl
    have ho1 : w4.cell? ⟨w.heap.size + 1, 1, none⟩ = some (.int .i64 oa) := by rw [b1.cell]; rfl
    have ho2 : w4.cell? ⟨w.heap.size + 1, 2, none⟩ = some (.int .i64 ob) := by rw [b1.cell]; rfl
    have hr0 : w4.cell? ⟨w.heap.size + 1 + 1, 0, none⟩ = some (.int .i64 0) := by rw [b2.cell]; rfl
    have hr1 : w4.cell? ⟨w.heap.size + 1 + 1, 1, none⟩ = some (.slice none 0 0) := by rw [b2.cell]; rfl
    have hr2 : w4.cell? ⟨w.heap.size + 1 + 1, 2, none⟩ = some (.bool false) := by rw [b2.cell]; rfl
    have hr3 : w4.cell? ⟨w.heap.size + 1 + 1, 3, none⟩ = some (.int .i64 0) := by rw [b2.cell]; rfl
    have hfz0 := b0.frozen 1
    have hfr0 := b2.frozen 0
    have hfr1 := b2.frozen 1
    have hfr2 := b2.frozen 2
    have hfr3 := b2.frozen 3
    have B2 := Lib.hid b2
    have HB4 := Lib.hid hb4
    clear b0 b1 b2 hb4 HB'
    go_wp2_with fail
    refine bodyPost_ret (v := .tuple #[.agg #[.int .i64 5, .slice a n c, .bool b, .int .i64 t], .int .i64 0]) ?_ rfl ?_
    · simp [results, Try.results87, go_sem, hr0, hr1, hr2, hr3]
    · exact stepp_same HX.out (below_res HB4.out _ (by omega) _ _ _ _)

set_option maxRecDepth 100000 in
set_option maxHeartbeats 6400000 in
theorem o_move_yes {w : World} {n c : Nat} {a : Option Addr} {L L1 L2 : List Int} {b : Bool} {t oa ob f g hf hg : Int} (n1 : 0 ≤ oa) (n2 : oa < 65536) (n3 : 0 ≤ ob) (ef : oa / 256 = f) (eg : oa % 256 = g) (HX : Hid (Rd w (.slice a n c) L))
    (HA : ∀ W, Below w.heap.size w W → Hid (Calls Try.prog 84 #[.slice a n c, .int .i64 f] W fun e w' => e = .returned (.int .i64 hf) ∧ ∃ q, w' = W.drewN q))
    (HB : ∀ W, Below w.heap.size w W → Hid (Calls Try.prog 84 #[.slice a n c, .int .i64 g] W fun e w' => e = .returned (.int .i64 hg) ∧ ∃ q, w' = W.drewN q))
    (hl : ¬ hf < ob) (hfg : (f == g) = false) (hr : -1 ≤ hg) (hr1 : hg ≤ 1099511627776) (hr2 : hf ≤ 1099511627776) (y : Int) (hy : (0 ≤ hg ∧ hg + ob = y) ∨ (¬ 0 ≤ hg ∧ ob = y)) (hok : ¬ 1099511627776 < y)
    (HP : ∀ W, Below w.heap.size w W → Hid (Calls Try.prog 86 #[.slice a n c, .int .i64 g, .int .i64 y] W (PutP W L1 true)))
    (HP2 : ∀ W v', Rd W v' L1 → Hid (Calls Try.prog 86 #[v', .int .i64 f, .int .i64 (hf - ob)] W (PutP W L2 true))) :
    Calls Try.prog 87 #[.agg #[.int .i64 5, .slice a n c, .bool b, .int .i64 t], .agg #[.int .i64 9, .int .i64 oa, .int .i64 ob]] w (StepP w (.slice a n c) ((⟨5, L2, b, t⟩ : St), 1)) := by
  have m1 : ¬ oa < 0 := by omega
  have m2 : ¬ 65536 ≤ oa := by omega
  have m3 : ¬ ob < 0 := by omega
  rcases hy with ⟨h0, hy⟩ | ⟨h0, rfl⟩
  all_goals
    go_enter Try.func87, Try.ntmps87
    go_wp2_with fail
    go_quiet (fail)
    go_wp2_with fail
    go_quiet (first | (go_at_call 84; first | with_reducible exact quiet_at (HA _ (below3d w _ _ _ _)).out | with_reducible exact quiet_at (HB _ (below3d w _ _ _ _)).out))
    go_wp2_with fail
    refine (HP _ (below3d w _ _ _ _)).out.mono ?_
    rintro e w4 ⟨v4, rfl, hrd, how, hb4'⟩
    obtain ⟨a4, c4, rfl, _⟩ := id hrd
    have HB' := Lib.hid hb4'
    have HR' := Lib.hid hrd
    clear hb4' hrd how
    obtain ⟨b0, b1, b2, hz4, hb4⟩ := box_facts (k := 5) (t := t) (co := 9) (oa := oa) (ob := ob) (vl := .slice a n c) (b := b) (below_undrew (HB'.out.mono (by simp : w.heap.size + 1 + 1 + 1 ≤ _)))
    have hk0 : w4.cell? ⟨w.heap.size, 0, none⟩ = some (.int .i64 5) := by rw [b0.cell]; rfl
    have hk1 : w4.cell? ⟨w.heap.size, 1, none⟩ = some (.slice a n c) := by rw [b0.cell]; rfl
    have hk2 : w4.cell? ⟨w.heap.size, 2, none⟩ = some (.bool b) := by rw [b0.cell]; rfl
    have hk3 : w4.cell? ⟨w.heap.size, 3, none⟩ = some (.int .i64 t) := by rw [b0.cell]; rfl
    have ho0 : w4.cell? ⟨w.heap.size + 1, 0, none⟩ = some (.int .i64 9) := by rw [b1.cell]; rfl
    have ho1 : w4.cell? ⟨w.heap.size + 1, 1, none⟩ = some (.int .i64 oa) := by rw [b1.cell]; rfl
    have ho2 : w4.cell? ⟨w.heap.size + 1, 2, none⟩ = some (.int .i64 ob) := by rw [b1.cell]; rfl
    have hr0 : w4.cell? ⟨w.heap.size + 1 + 1, 0, none⟩ = some (.int .i64 0) := by rw [b2.cell]; rfl
    have hr1 : w4.cell? ⟨w.heap.size + 1 + 1, 1, none⟩ = some (.slice none 0 0) := by rw [b2.cell]; rfl
    have hr2 : w4.cell? ⟨w.heap.size + 1 + 1, 2, none⟩ = some (.bool false) := by rw [b2.cell]; rfl
    have hr3 : w4.cell? ⟨w.heap.size + 1 + 1, 3, none⟩ = some (.int .i64 0) := by rw [b2.cell]; rfl
    have hfz0 := b0.frozen 1
    have hfr0 := b2.frozen 0
    have hfr1 := b2.frozen 1
    have hfr2 := b2.frozen 2
    have hfr3 := b2.frozen 3
    have B0 := Lib.hid b0
    have B1 := Lib.hid b1
    have B2 := Lib.hid b2
    have HB4 := Lib.hid hb4
    have hz4' := Lib.hid hz4
    clear b0 b1 b2 hb4 HB'
    go_wp2_with fail
    refine (HP2 _ _ HR'.out).out.mono ?_
    rintro e w5 ⟨v5, rfl, hrd, how, hb5'⟩
    obtain ⟨a5, c5, rfl, _⟩ := id hrd
    have HO5 := Lib.hid (how rfl).1
    have HF5 := Lib.hid ((how rfl).2.mono HB4.out.size)
    have HB5 := Lib.hid (HB4.out.trans (hb5'.mono HB4.out.size))
    have HC0 := Lib.hid (B0.out.below hb5' B0.out.lt)
    have HC1 := Lib.hid (B1.out.below hb5' B1.out.lt)
    have HC2 := Lib.hid (B2.out.below hb5' B2.out.lt)
    have hz5 : w.heap.size + 1 + 1 + 1 ≤ w5.heap.size := Nat.le_trans hz4'.out hb5'.size
    clear hrd how hb5' B0 B1 B2 HB4 HR' hz4 hz4' hk0 hk1 hk2 hk3 ho0 ho1 ho2 hr0 hr1 hr2 hr3 hfz0 hfr0 hfr1 hfr2 hfr3
    have b0 := HC0.out
    have b1 := HC1.out
    have b2 := HC2.out
    have hk0 : w5.cell? ⟨w.heap.size, 0, none⟩ = some (.int .i64 5) := by rw [b0.cell]; rfl
    have hk1 : w5.cell? ⟨w.heap.size, 1, none⟩ = some (.slice a n c) := by rw [b0.cell]; rfl
    have hk2 : w5.cell? ⟨w.heap.size, 2, none⟩ = some (.bool b) := by rw [b0.cell]; rfl
    have hk3 : w5.cell? ⟨w.heap.size, 3, none⟩ = some (.int .i64 t) := by rw [b0.cell]; rfl
    have ho0 : w5.cell? ⟨w.heap.size + 1, 0, none⟩ = some (.int .i64 9) := by rw [b1.cell]; rfl
    have ho1 : w5.cell? ⟨w.heap.size + 1, 1, none⟩ = some (.int .i64 oa) := by rw [b1.cell]; rfl
    have ho2 : w5.cell? ⟨w.heap.size + 1, 2, none⟩ = some (.int .i64 ob) := by rw [b1.cell]; rfl
    have hr0 : w5.cell? ⟨w.heap.size + 1 + 1, 0, none⟩ = some (.int .i64 0) := by rw [b2.cell]; rfl
    have hr1 : w5.cell? ⟨w.heap.size + 1 + 1, 1, none⟩ = some (.slice none 0 0) := by rw [b2.cell]; rfl
    have hr2 : w5.cell? ⟨w.heap.size + 1 + 1, 2, none⟩ = some (.bool false) := by rw [b2.cell]; rfl
    have hr3 : w5.cell? ⟨w.heap.size + 1 + 1, 3, none⟩ = some (.int .i64 0) := by rw [b2.cell]; rfl
    have hfz0 := b0.frozen 1
    have hfr0 := b2.frozen 0
    have hfr1 := b2.frozen 1
    have hfr2 := b2.frozen 2
    have hfr3 := b2.frozen 3
    clear b0 b1 b2
    go_wp2_with fail
    refine bodyPost_ret (v := .tuple #[.agg #[.int .i64 5, .slice a5 L2.length c5, .bool b, .int .i64 t], .int .i64 1]) ?_ rfl ?_
    · simp [results, Try.results87, go_sem, hr0, hr1, hr2, hr3]
    · exact stepp_own HC0.out HC2.out (sets_keeps _ _ _ _ _ _ _ _) HB5.out (Nat.le_refl _) (by omega) HO5.out HF5.out _ _ _ _

theorem o_move {w : World} {vl : Value} (s : St) (o : Op3) (hx : Rd w vl s.L) (hk : s.kind = 5) (hc : o.code = 9) (hm : mayB s = true) :
    Calls Try.prog 87 #[.agg #[.int .i64 s.kind, vl, .bool s.isSealed, .int .i64 s.to], .agg #[.int .i64 o.code, .int .i64 o.a, .int .i64 o.b]] w (StepP w vl (moveS s o)) := by
  obtain ⟨hev, h128⟩ := may_pairs (.inr hk) hm
  have hbd := may_ledger hk hm
  obtain ⟨k, L, b, t⟩ := s
  obtain ⟨co, oa, ob⟩ := o
  simp only at hx hk hc hev h128 hm hbd ⊢
  subst hk
  subst hc
  have HX := Lib.hid hx
  obtain ⟨a, c, rfl, _⟩ := id hx
  have HH := fun (key : Int) W (hB : Below w.heap.size w W) => Lib.hid (o_has (w := W) (HX.out.below hB (Nat.le_refl _)) (by omega) hev key)
  by_cases h0 : oa < 0 ∨ 65536 ≤ oa ∨ ob < 0
  · have hr : moveS ⟨5, L, b, t⟩ ⟨9, oa, ob⟩ = ((⟨5, L, b, t⟩ : St), 0) := by simp [moveS, h0]
    rw [hr]
    exact o_move_no h0 HX
  have n1 : 0 ≤ oa := by omega
  have n2 : oa < 65536 := by omega
  have n3 : 0 ≤ ob := by omega
  by_cases h1 : hasI L (oa / 256) < ob
  · have hr : moveS ⟨5, L, b, t⟩ ⟨9, oa, ob⟩ = ((⟨5, L, b, t⟩ : St), 0) := by simp [moveS, h0, h1]
    rw [hr]
    exact o_move_less n1 n2 n3 rfl rfl HX (HH _) (HH _) h1
  by_cases h2 : oa / 256 = oa % 256
  · have hr : moveS ⟨5, L, b, t⟩ ⟨9, oa, ob⟩ = ((⟨5, L, b, t⟩ : St), 1) := by unfold moveS; simp only; rw [if_neg h0, if_neg h1, if_pos h2]
    rw [hr]
    exact o_move_same n1 n2 n3 rfl rfl HX (HH _) (HH _) h1 (by simp [h2])
  have h2' : (oa / 256 == oa % 256) = false := by simpa using h2
  have hP := fun W (hB : Below w.heap.size w W) => Lib.hid (o_put (w := W) (HX.out.below hB (Nat.le_refl _)) (by omega) hev (oa % 256) (max (hasI L (oa % 256)) 0 + ob))
  have hy : (0 ≤ hasI L (oa % 256) ∧ hasI L (oa % 256) + ob = max (hasI L (oa % 256)) 0 + ob) ∨ (¬ 0 ≤ hasI L (oa % 256) ∧ ob = max (hasI L (oa % 256)) 0 + ob) := by omega
  by_cases h3 : putB L (oa % 256) = false ∨ 1099511627776 < max (hasI L (oa % 256)) 0 + ob
  · have hr : moveS ⟨5, L, b, t⟩ ⟨9, oa, ob⟩ = ((⟨5, L, b, t⟩ : St), 0) := by unfold moveS; simp only; rw [if_neg h0, if_neg h1, if_neg h2, if_pos h3]
    rw [hr]
    exact o_move_full n1 n2 n3 rfl rfl HX (HH _) (HH _) h1 h2' (hbd _).1 (hbd _).2 (hbd _).2 _ hy _ (by cases hb : putB L (oa % 256) <;> simp [hb] at h3 ⊢; exact h3) hP
  · have hr : moveS ⟨5, L, b, t⟩ ⟨9, oa, ob⟩ = ((⟨5, putL (putL L (oa % 256) (max (hasI L (oa % 256)) 0 + ob)) (oa / 256) (hasI L (oa / 256) - ob), b, t⟩ : St), 1) := by unfold moveS; simp only; rw [if_neg h0, if_neg h1, if_neg h2, if_neg h3]
    rw [hr]
    have hb : putB L (oa % 256) = true := by simp only [not_or] at h3; simpa using h3.1
    rw [hb] at hP
    have hfd : foundB L (oa / 256) = true := by
      cases hq : foundB L (oa / 256)
      · have := has_unfound hq; omega
      · rfl
    have e1 := putL_eq (n := max (hasI L (oa % 256)) 0 + ob) hev hb
    have hev2 : (putL L (oa % 256) (max (hasI L (oa % 256)) 0 + ob)).length % 2 = 0 := by rw [e1]; exact putR_even hev
    have hfd2 : foundB (putL L (oa % 256) (max (hasI L (oa % 256)) 0 + ob)) (oa / 256) = true := by rw [e1, found_putR _ _ _ _ hev, hfd, Bool.or_true]
    have hlen2 : (putL L (oa % 256) (max (hasI L (oa % 256)) 0 + ob)).length ≤ 1099511627776 := by rw [e1, putR_length _ _ _ hev]; split <;> omega
    have hb2 : putB (putL L (oa % 256) (max (hasI L (oa % 256)) 0 + ob)) (oa / 256) = true := by unfold putB; rw [hfd2]; rfl
    refine o_move_yes n1 n2 n3 rfl rfl HX (HH _) (HH _) h1 h2' (hbd _).1 (hbd _).2 (hbd _).2 _ hy (by simp only [not_or] at h3; exact h3.2) hP fun W v' hv' => Lib.hid ?_
    have := o_put (w := W) hv' hlen2 hev2 (oa / 256) (hasI L (oa / 256) - ob)
    rw [hb2] at this
    exact this
end Go.Proofs.Ytjfenjnnpikkdaa
