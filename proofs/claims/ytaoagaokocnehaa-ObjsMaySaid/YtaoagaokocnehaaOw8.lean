/-
  Package objs: the walk of ledger.
-/
import Derived.Test.YtaoagaokocnehaaOw7
import Derived.Test.YtaoagaokocnehaaOw5
import Derived.Deep.RegionLaw
import Derived.BigRegion
namespace Go.Proofs.Ytaoagaokocnehaa
set_option linter.unusedVariables false
set_option linter.unusedSimpArgs false
open Go.RowKit

set_option maxRecDepth 100000 in
set_option maxHeartbeats 6400000 in
theorem o_ledger_no {w : World} {n c : Nat} {a : Option Addr} {L : List Int} {b : Bool} {t co oa ob r : Int} (g9 : (co == 9) = false)
    (h : ((co == 7) = false ∧ (co != 7) = true ∧ (co != 8) = true ∧ r = 0) ∨ (co = 7 ∧ (oa < 0 ∨ (¬ oa < 0 ∧ 255 < oa)) ∧ r = -1) ∨ (co = 8 ∧ (oa < 0 ∨ (¬ oa < 0 ∧ 255 < oa) ∨ (¬ oa < 0 ∧ ¬ 255 < oa ∧ ob < 0)) ∧ r = -1)) (HX : Hid (Rd w (.slice a n c) L)) :
    Calls Try.prog 30 #[.agg #[.int .i64 5, .slice a n c, .bool b, .int .i64 t], .agg #[.int .i64 co, .int .i64 oa, .int .i64 ob]] w (StepP w (.slice a n c) ((⟨5, L, b, t⟩ : St), r)) := by
  rcases h with ⟨g7, u7, u8, rfl⟩ | ⟨rfl, h | ⟨h1, h2⟩, rfl⟩ | ⟨rfl, h | ⟨h1, h2⟩ | ⟨h1, h2, h3⟩, rfl⟩
  · go_enter Try.func30, Try.ntmps30
    go_wp2_with fail
    refine bodyPost_ret (v := .tuple #[.agg #[.int .i64 5, .slice a n c, .bool b, .int .i64 t], .int .i64 0]) ?_ rfl ?_
    · simp [results, Try.results30, go_sem]
    · exact stepp_same HX.out (below3 w _ _ _)
  all_goals
    clear g9
    go_enter Try.func30, Try.ntmps30
    go_wp2_with fail
    refine bodyPost_ret (v := .tuple #[.agg #[.int .i64 5, .slice a n c, .bool b, .int .i64 t], .int .i64 (-1)]) ?_ rfl ?_
    · simp [results, Try.results30, go_sem]
    · exact stepp_same HX.out (below3 w _ _ _)

set_option maxRecDepth 100000 in
set_option maxHeartbeats 6400000 in
theorem o_ledger_read {w : World} {n c : Nat} {a : Option Addr} {L : List Int} {b : Bool} {t oa ob had : Int} (n1 : ¬ oa < 0) (n2 : ¬ 255 < oa) (HX : Hid (Rd w (.slice a n c) L))
    (HA : ∀ W, Below w.heap.size w W → Hid (Calls Try.prog 44 #[.slice a n c, .int .i64 oa] W fun e w' => e = .returned (.int .i64 had) ∧ ∃ q, w' = W.drewN q)) :
    Calls Try.prog 30 #[.agg #[.int .i64 5, .slice a n c, .bool b, .int .i64 t], .agg #[.int .i64 7, .int .i64 oa, .int .i64 ob]] w (StepP w (.slice a n c) ((⟨5, L, b, t⟩ : St), had)) := by
  go_enter Try.func30, Try.ntmps30
  go_wp2_with fail
  go_region_with (first | (go_at_call 44; refine (HA _ (below3 w _ _ _).drew).out.mono ?_; rintro e w1 ⟨rfl, q, rfl⟩))
  all_goals
    go_wp2_with fail
    refine bodyPost_ret (v := .tuple #[.agg #[.int .i64 5, .slice a n c, .bool b, .int .i64 t], .int .i64 had]) ?_ rfl ?_
    · simp [results, Try.results30, go_sem]
    · exact stepp_same HX.out (below_res (below3d w _ _ _ _) _ (by omega) _ _ _ _)

set_option maxRecDepth 100000 in
set_option maxHeartbeats 6400000 in
theorem o_ledger_add {w : World} {n c : Nat} {a : Option Addr} {L L2 : List Int} {b ok : Bool} {t oa ob had y sm z : Int} (n1 : ¬ oa < 0) (n2 : ¬ 255 < oa) (n3 : ¬ ob < 0) (HX : Hid (Rd w (.slice a n c) L))
    (HA : ∀ W, Below w.heap.size w W → Hid (Calls Try.prog 44 #[.slice a n c, .int .i64 oa] W fun e w' => e = .returned (.int .i64 had) ∧ ∃ q, w' = W.drewN q))
    (HC1 : ∀ W, Hid (Calls Try.prog 37 #[.int .i64 ob] W fun e w' => e = .returned (.int .i64 y) ∧ w' = W))
    (HC2 : ∀ W, Hid (Calls Try.prog 37 #[.int .i64 sm] W fun e w' => e = .returned (.int .i64 z) ∧ w' = W))
    (b1 : -1099511627776 ≤ y) (b2 : y ≤ 1099511627776) (b4 : had ≤ 1099511627776) (hs : (0 ≤ had ∧ had + y = sm) ∨ (¬ 0 ≤ had ∧ y = sm))
    (HP : ∀ W, Below w.heap.size w W → Hid (Calls Try.prog 46 #[.slice a n c, .int .i64 oa, .int .i64 z] W (PutP W L2 ok))) :
    Calls Try.prog 30 #[.agg #[.int .i64 5, .slice a n c, .bool b, .int .i64 t], .agg #[.int .i64 8, .int .i64 oa, .int .i64 ob]] w (StepP w (.slice a n c) (if ok = true then ((⟨5, L2, b, t⟩ : St), z) else ((⟨5, L, b, t⟩ : St), -2))) := by
  rcases hs with ⟨h0, hs⟩ | ⟨h0, rfl⟩ <;> cases ok
  all_goals
    first | rw [if_pos rfl] | rw [if_neg (by simp)]
    go_enter Try.func30, Try.ntmps30
    go_wp2_with fail
    go_quiet (first | (go_at_call 44; with_reducible exact Calls.quiet_of (HA _ (below3d w _ _ _ _)).out) | (go_at_call 37; first | with_reducible exact Calls.quiet_of_same (HC1 _).out | with_reducible exact Calls.quiet_of_same (HC2 _).out))
    go_wp2_with fail
    refine (HP _ (below3d w _ _ _ _)).out.mono ?_
    rintro e w4 ⟨v4, rfl, hrd, how, hb4'⟩
    obtain ⟨a4, c4, rfl, _⟩ := id hrd
    have HB' := Lib.hid hb4'
    have HO4 := Lib.hid how
    clear hb4' hrd how
    obtain ⟨b0, b1, b2, hz4, hb4⟩ := box_facts (k := 5) (t := t) (co := 8) (oa := oa) (ob := ob) (vl := .slice a n c) (b := b) (below_undrew (HB'.out.mono (by simp : w.heap.size + 1 + 1 + 1 ≤ _)))
    have hk0 : w4.cell? ⟨w.heap.size, 0, none⟩ = some (.int .i64 5) := by rw [b0.cell]; rfl
    have hk1 : w4.cell? ⟨w.heap.size, 1, none⟩ = some (.slice a n c) := by rw [b0.cell]; rfl
    have hk2 : w4.cell? ⟨w.heap.size, 2, none⟩ = some (.bool b) := by rw [b0.cell]; rfl
    have hk3 : w4.cell? ⟨w.heap.size, 3, none⟩ = some (.int .i64 t) := by rw [b0.cell]; rfl
    have ho0 : w4.cell? ⟨w.heap.size + 1, 0, none⟩ = some (.int .i64 8) := by rw [b1.cell]; rfl
    have ho1 : w4.cell? ⟨w.heap.size + 1, 1, none⟩ = some (.int .i64 oa) := by rw [b1.cell]; rfl
    have ho2 : w4.cell? ⟨w.heap.size + 1, 2, none⟩ = some (.int .i64 ob) := by rw [b1.cell]; rfl
    have hr0 : w4.cell? ⟨w.heap.size + 1 + 1, 0, none⟩ = some (.int .i64 0) := by rw [b2.cell]; rfl
    have hr1 : w4.cell? ⟨w.heap.size + 1 + 1, 1, none⟩ = some (.slice none 0 0) := by rw [b2.cell]; rfl
    have hr2 : w4.cell? ⟨w.heap.size + 1 + 1, 2, none⟩ = some (.bool false) := by rw [b2.cell]; rfl
    have hr3 : w4.cell? ⟨w.heap.size + 1 + 1, 3, none⟩ = some (.int .i64 0) := by rw [b2.cell]; rfl
    have hfz0 := b0.frozen 1
    have hfr0 := b2.frozen 0
    have hfr1 := b2.frozen 1
    have hfr2 := b2.frozen 2
    have hfr3 := b2.frozen 3
    have B0 := Lib.hid b0
    have B2 := Lib.hid b2
    have HB4 := Lib.hid hb4
    clear b0 b1 b2 hb4 HB'
    go_wp2_with fail
  · refine bodyPost_ret (v := .tuple #[.agg #[.int .i64 5, .slice a n c, .bool b, .int .i64 t], .int .i64 (-2)]) ?_ rfl ?_
    · simp [results, Try.results30, go_sem, hr0, hr1, hr2, hr3]
    · exact stepp_same HX.out (below_res HB4.out _ (by omega) _ _ _ _)
  · refine bodyPost_ret (v := .tuple #[.agg #[.int .i64 5, .slice a4 L2.length c4, .bool b, .int .i64 t], .int .i64 z]) ?_ rfl ?_
    · simp [results, Try.results30, go_sem, hr0, hr1, hr2, hr3]
    · exact stepp_own B0.out B2.out (sets_keeps _ _ _ _ _ _ _ _) HB4.out (Nat.le_refl _) (by omega) (HO4.out trivial).1 ((HO4.out trivial).2.mono (below3d w _ _ _ _).size) _ _ _ _
  · refine bodyPost_ret (v := .tuple #[.agg #[.int .i64 5, .slice a n c, .bool b, .int .i64 t], .int .i64 (-2)]) ?_ rfl ?_
    · simp [results, Try.results30, go_sem, hr0, hr1, hr2, hr3]
    · exact stepp_same HX.out (below_res HB4.out _ (by omega) _ _ _ _)
  · refine bodyPost_ret (v := .tuple #[.agg #[.int .i64 5, .slice a4 L2.length c4, .bool b, .int .i64 t], .int .i64 z]) ?_ rfl ?_
    · simp [results, Try.results30, go_sem, hr0, hr1, hr2, hr3]
    · exact stepp_own B0.out B2.out (sets_keeps _ _ _ _ _ _ _ _) HB4.out (Nat.le_refl _) (by omega) (HO4.out trivial).1 ((HO4.out trivial).2.mono (below3d w _ _ _ _).size) _ _ _ _

theorem rd_inj {w : World} {v : Value} {xs ys : List Int} (h : Rd w v xs) (h' : Rd w v ys) : xs = ys := by
  obtain ⟨a, c, rfl, h1, h2, h3⟩ := h
  obtain ⟨a', c', e, h1', h2', h3'⟩ := h'
  simp only [Value.slice.injEq] at e
  obtain ⟨rfl, hl, rfl⟩ := e
  refine List.ext_getElem hl fun i hi hi' => ?_
  obtain ⟨b, o, rfl, _, hc⟩ := h3 (by omega)
  obtain ⟨b', o', e, _, hc'⟩ := h3' (by omega)
  simp only [Option.some.injEq, Addr.mk.injEq] at e
  obtain ⟨rfl, rfl, _⟩ := e
  have := (hc i hi).symm.trans (hc' i hi')
  simpa [List.getD_eq_getElem?_getD, List.getElem?_eq_getElem hi, List.getElem?_eq_getElem hi'] using this

/-- A callee's state, behind the stores into the caller's result. -/
theorem stepp_pass {w W w1 : World} {vl v : Value} {L0 : List Int} {r : St × Int} {C : Nat} {cs : Array Value} (hx : Rd w vl L0) (hW : Below w.heap.size w W) (hC : Blk W C cs 24) (hC0 : w.heap.size ≤ C)
    (h1 : Rd w1 v r.1.L) (h2 : Below W.heap.size W w1) (h3 : v = vl ∨ (Own w1 3 1 v r.1.L.length (ints r.1.L) ∧ Fresh W.heap.size v)) (v1 v2 v3 v4 : Value) :
    StepP w vl r (.returned (.tuple #[.agg #[.int .i64 r.1.kind, v, .bool r.1.isSealed, .int .i64 r.1.to], .int .i64 r.2])) ((((w1.setCell ⟨C, 0, none⟩ v1).setCell ⟨C, 1, none⟩ v2).setCell ⟨C, 2, none⟩ v3).setCell ⟨C, 3, none⟩ v4) := by
  have hk : Keeps (fun k => k = C) w1 ((((w1.setCell ⟨C, 0, none⟩ v1).setCell ⟨C, 1, none⟩ v2).setCell ⟨C, 2, none⟩ v3).setCell ⟨C, 3, none⟩ v4) :=
    ((((Keeps.refl (fun k => k = C) w1).set C 0 (.inl rfl) _).set C 1 (.inl rfl) _).set C 2 (.inl rfl) _).set C 3 (.inl rfl) _
  have hb : Below w.heap.size w w1 := hW.trans (h2.mono hW.size)
  have hB := hb.trans (hk.below (B := w.heap.size) (by rintro k rfl; exact hC0) hb.size)
  have hC1 := hC.below h2 hC.lt
  rcases h3 with rfl | h3
  · have e := rd_inj h1 (hx.below hb (Nat.le_refl _))
    exact ⟨_, rfl, e ▸ hx.below hB (Nat.le_refl _), hB, .inl rfl⟩
  · have h := own_keeps h3.1 hk fun q hq e => own_blk_ne h3.1 hC1 (by decide) (e ▸ hq)
    exact ⟨_, rfl, own_rd h, hB, .inr ⟨h, h3.2.mono hW.size⟩⟩

set_option maxRecDepth 100000 in
set_option maxHeartbeats 6400000 in
theorem o_ledger_move {w : World} {n c : Nat} {a : Option Addr} {L : List Int} {b : Bool} {t oa ob : Int} {r : St × Int} (HX : Hid (Rd w (.slice a n c) L))
    (HM : ∀ W, Below w.heap.size w W → Hid (Calls Try.prog 47 #[.agg #[.int .i64 5, .slice a n c, .bool b, .int .i64 t], .agg #[.int .i64 9, .int .i64 oa, .int .i64 ob]] W (StepP W (.slice a n c) r))) :
    Calls Try.prog 30 #[.agg #[.int .i64 5, .slice a n c, .bool b, .int .i64 t], .agg #[.int .i64 9, .int .i64 oa, .int .i64 ob]] w (StepP w (.slice a n c) r) := by
  go_enter Try.func30, Try.ntmps30
  go_wp2_with fail
  refine (HM _ (below3 w _ _ _)).out.mono ?_
  rintro e w4 ⟨v4, rfl, hrd, hb4', hor⟩
  obtain ⟨a4, c4, rfl, _⟩ := id hrd
  obtain ⟨b0, b1, b2, hz4, hb4⟩ := box_facts (k := 5) (t := t) (co := 9) (oa := oa) (ob := ob) (vl := .slice a n c) (b := b) (hb4'.mono (by simp : w.heap.size + 1 + 1 + 1 ≤ _))
  have hr0 : w4.cell? ⟨w.heap.size + 1 + 1, 0, none⟩ = some (.int .i64 0) := by rw [b2.cell]; rfl
  have hr1 : w4.cell? ⟨w.heap.size + 1 + 1, 1, none⟩ = some (.slice none 0 0) := by rw [b2.cell]; rfl
  have hr2 : w4.cell? ⟨w.heap.size + 1 + 1, 2, none⟩ = some (.bool false) := by rw [b2.cell]; rfl
  have hr3 : w4.cell? ⟨w.heap.size + 1 + 1, 3, none⟩ = some (.int .i64 0) := by rw [b2.cell]; rfl
  have hfr0 := b2.frozen 0
  have hfr1 := b2.frozen 1
  have hfr2 := b2.frozen 2
  have hfr3 := b2.frozen 3
  have HB4 := Lib.hid hb4'
  have HR := Lib.hid hrd
  have HO := Lib.hid hor
  clear b0 b1 b2 hb4 hb4' hrd hor
  obtain ⟨⟨k', L', b', t'⟩, m'⟩ := r
  go_wp2_with fail
  refine bodyPost_ret (v := .tuple #[.agg #[.int .i64 k', .slice a4 L'.length c4, .bool b', .int .i64 t'], .int .i64 m']) ?_ rfl ?_
  · simp [results, Try.results30, go_sem, hr0, hr1, hr2, hr3]
  · have := Blk.new ((w.alloc (.cells #[.int .i64 5, .slice a n c, .bool b, .int .i64 t] 24)).alloc (.cells #[.int .i64 9, .int .i64 oa, .int .i64 ob] 26)) #[.int .i64 0, .slice none 0 0, .bool false, .int .i64 0] 24
    simp only [World.size_alloc] at this
    exact stepp_pass (r := (⟨k', L', b', t'⟩, m')) HX.out (below3 w _ _ _) this (by omega) HR.out HB4.out HO.out _ _ _ _

theorem o_ledger {w : World} {vl : Value} (s : St) (o : Op3) (hx : Rd w vl s.L) (hk : s.kind = 5) (hm : mayB s = true) :
    Calls Try.prog 30 #[.agg #[.int .i64 s.kind, vl, .bool s.isSealed, .int .i64 s.to], .agg #[.int .i64 o.code, .int .i64 o.a, .int .i64 o.b]] w (StepP w vl (ledgerS s o)) := by
  by_cases c9 : o.code = 9
  · have hM := fun W (hB : Below w.heap.size w W) => Lib.hid (o_move s o (hx.below hB (Nat.le_refl _)) hk c9 hm)
    have hr : ledgerS s o = moveS s o := by unfold ledgerS; rw [if_pos c9]
    rw [hr]
    generalize moveS s o = r at *
    obtain ⟨k, L, b, t⟩ := s
    obtain ⟨co, oa, ob⟩ := o
    simp only at hx hk c9 hM ⊢
    subst hk
    subst c9
    obtain ⟨a, c, rfl, _⟩ := id hx
    exact o_ledger_move (Lib.hid hx) hM
  obtain ⟨hev, h128⟩ := may_pairs (.inr hk) hm
  have hbd := may_ledger hk hm
  obtain ⟨k, L, b, t⟩ := s
  obtain ⟨co, oa, ob⟩ := o
  simp only at hx hk hev h128 hm hbd c9 ⊢
  subst hk
  have HX := Lib.hid hx
  obtain ⟨a, c, rfl, _⟩ := id hx
  have HH := fun W (hB : Below w.heap.size w W) => Lib.hid (o_has (w := W) (HX.out.below hB (Nat.le_refl _)) (by omega) hev oa)
  have g9 : (co == 9) = false := by simpa using c9
  by_cases hc : co ≠ 7 ∧ co ≠ 8
  · have hr : ledgerS ⟨5, L, b, t⟩ ⟨co, oa, ob⟩ = ((⟨5, L, b, t⟩ : St), 0) := by unfold ledgerS; simp only; rw [if_neg c9, if_pos hc]
    rw [hr]
    exact o_ledger_no g9 (.inl ⟨by simpa using hc.1, by simpa using hc.1, by simpa using hc.2, rfl⟩) HX
  by_cases ha : oa < 0 ∨ 255 < oa
  · have hr : ledgerS ⟨5, L, b, t⟩ ⟨co, oa, ob⟩ = ((⟨5, L, b, t⟩ : St), -1) := by unfold ledgerS; simp only; rw [if_neg c9, if_neg hc, if_pos ha]
    rw [hr]
    refine o_ledger_no g9 ?_ HX
    have : co = 7 ∨ co = 8 := by omega
    rcases this with rfl | rfl
    · exact .inr (.inl ⟨rfl, by omega, rfl⟩)
    · exact .inr (.inr ⟨rfl, by omega, rfl⟩)
  by_cases c7 : co = 7
  · have hr : ledgerS ⟨5, L, b, t⟩ ⟨co, oa, ob⟩ = ((⟨5, L, b, t⟩ : St), hasI L oa) := by unfold ledgerS; simp only; rw [if_neg c9, if_neg hc, if_neg ha, if_pos c7]
    rw [hr]
    subst c7
    exact o_ledger_read (by omega) (by omega) HX HH
  have c8 : co = 8 := by omega
  subst c8
  by_cases hb : ob < 0
  · have hr : ledgerS ⟨5, L, b, t⟩ ⟨8, oa, ob⟩ = ((⟨5, L, b, t⟩ : St), -1) := by unfold ledgerS; simp only; rw [if_neg c9, if_neg hc, if_neg ha, if_neg c7, if_pos hb]
    rw [hr]
    exact o_ledger_no g9 (.inr (.inr ⟨rfl, by omega, rfl⟩)) HX
  · have hr : ledgerS ⟨5, L, b, t⟩ ⟨8, oa, ob⟩ = if putB L oa = true then ((⟨5, putL L oa (cutI (max (hasI L oa) 0 + cutI ob)), b, t⟩ : St), cutI (max (hasI L oa) 0 + cutI ob)) else ((⟨5, L, b, t⟩ : St), -2) := by unfold ledgerS; simp only; rw [if_neg c9, if_neg hc, if_neg ha, if_neg c7, if_neg hb]
    rw [hr]
    have hP := fun W (hB : Below w.heap.size w W) => Lib.hid (o_put (w := W) (HX.out.below hB (Nat.le_refl _)) (by omega) hev oa (cutI (max (hasI L oa) 0 + cutI ob)))
    exact o_ledger_add (by omega) (by omega) hb HX HH (fun W => Lib.hid (o_cut ob W)) (fun W => Lib.hid (o_cut (max (hasI L oa) 0 + cutI ob) W)) (cutI_range ob).1 (cutI_range ob).2 (hbd oa).2 (by omega) hP
end Go.Proofs.Ytaoagaokocnehaa
