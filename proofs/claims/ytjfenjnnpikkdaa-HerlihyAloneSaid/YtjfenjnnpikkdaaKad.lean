/-
  Package objs: the walk of ledger.
-/
import Derived.Deep.RegionLaw
import Derived.BigRegion
import Derived.Deep.Slices
import Derived.Deep.Fields
import Derived.ChangeSame
import Derived.WalkKit
import Derived.ProofKit
import Derived.Test.YtjfenjnnpikkdaaRows
import Derived.Lib.SmallJoins
import Derived.OpenShut
import Derived.Test.YtjfenjnnpikkdaaKa
import Derived.Test.YtjfenjnnpikkdaaKab
import Derived.Test.YtjfenjnnpikkdaaKac
set_option linter.unusedVariables false
set_option linter.unusedSimpArgs false
namespace Go.Proofs.Ytjfenjnnpikkdaa
set_option maxRecDepth 100000
open Go.RowKit

set_option maxRecDepth 100000 in
set_option maxHeartbeats 6400000 in
theorem o_ledger_no {w : World} {n c : Nat} {a : Option Addr} {L : List Int} {b : Bool} {t co oa ob r : Int} (g9 : (co == 9) = false)
    (h : ((co == 7) = false ∧ (co != 7) = true ∧ (co != 8) = true ∧ r = 0) ∨ (co = 7 ∧ (oa < 0 ∨ (¬ oa < 0 ∧ 255 < oa)) ∧ r = -1) ∨ (co = 8 ∧ (oa < 0 ∨ (¬ oa < 0 ∧ 255 < oa) ∨ (¬ oa < 0 ∧ ¬ 255 < oa ∧ ob < 0)) ∧ r = -1)) (HX : Hid (Rd w (.slice a n c) L)) :
    Calls Try.prog 76 #[.agg #[.int .i64 5, .slice a n c, .bool b, .int .i64 t], .agg #[.int .i64 co, .int .i64 oa, .int .i64 ob]] w (StepP w (.slice a n c) ((⟨5, L, b, t⟩ : St), r)) := by
  rcases h with ⟨g7, u7, u8, rfl⟩ | ⟨rfl, h | ⟨h1, h2⟩, rfl⟩ | ⟨rfl, h | ⟨h1, h2⟩ | ⟨h1, h2, h3⟩, rfl⟩
  · go_enter Try.func76, Try.ntmps76
    go_wp2_with fail
    refine bodyPost_ret (v := .tuple #[.agg #[.int .i64 5, .slice a n c, .bool b, .int .i64 t], .int .i64 0]) ?_ rfl ?_
    · simp [results, Try.results76, go_sem]
    · exact stepp_same HX.out (below3 w _ _ _)
  all_goals
    clear g9
    go_enter Try.func76, Try.ntmps76
    go_wp2_with fail
    refine bodyPost_ret (v := .tuple #[.agg #[.int .i64 5, .slice a n c, .bool b, .int .i64 t], .int .i64 (-1)]) ?_ rfl ?_
    · simp [results, Try.results76, go_sem]
    · exact stepp_same HX.out (below3 w _ _ _)

set_option maxRecDepth 100000 in
set_option maxHeartbeats 6400000 in
theorem o_ledger_read {w : World} {n c : Nat} {a : Option Addr} {L : List Int} {b : Bool} {t oa ob had : Int} (n1 : ¬ oa < 0) (n2 : ¬ 255 < oa) (HX : Hid (Rd w (.slice a n c) L))
    (HA : ∀ W, Below w.heap.size w W → Hid (Calls Try.prog 84 #[.slice a n c, .int .i64 oa] W fun e w' => e = .returned (.int .i64 had) ∧ ∃ q, w' = W.drewN q)) :
    Calls Try.prog 76 #[.agg #[.int .i64 5, .slice a n c, .bool b, .int .i64 t], .agg #[.int .i64 7, .int .i64 oa, .int .i64 ob]] w (StepP w (.slice a n c) ((⟨5, L, b, t⟩ : St), had)) := by
  go_enter Try.func76, Try.ntmps76
  go_wp2_with fail
  go_region_with (first | (go_at_call 84; refine (HA _ (below3 w _ _ _).drew).out.mono ?_; rintro e w1 ⟨rfl, q, rfl⟩))
  all_goals
    go_wp2_with fail
    refine bodyPost_ret (v := .tuple #[.agg #[.int .i64 5, .slice a n c, .bool b, .int .i64 t], .int .i64 had]) ?_ rfl ?_
    · simp [results, Try.results76, go_sem]
    · exact stepp_same HX.out (below_res (below3d w _ _ _ _) _ (by omega) _ _ _ _)

set_option maxRecDepth 100000 in
set_option maxHeartbeats 6400000 in
theorem o_ledger_add {w : World} {n c : Nat} {a : Option Addr} {L L2 : List Int} {b ok : Bool} {t oa ob had y sm z : Int} (n1 : ¬ oa < 0) (n2 : ¬ 255 < oa) (n3 : ¬ ob < 0) (HX : Hid (Rd w (.slice a n c) L))
    (HA : ∀ W, Below w.heap.size w W → Hid (Calls Try.prog 84 #[.slice a n c, .int .i64 oa] W fun e w' => e = .returned (.int .i64 had) ∧ ∃ q, w' = W.drewN q))
    (HC1 : ∀ W, Hid (Calls Try.prog 60 #[.int .i64 ob] W fun e w' => e = .returned (.int .i64 y) ∧ w' = W))
    (HC2 : ∀ W, Hid (Calls Try.prog 60 #[.int .i64 sm] W fun e w' => e = .returned (.int .i64 z) ∧ w' = W))
    (b1 : -1099511627776 ≤ y) (b2 : y ≤ 1099511627776) (b4 : had ≤ 1099511627776) (hs : (0 ≤ had ∧ had + y = sm) ∨ (¬ 0 ≤ had ∧ y = sm))
    (HP : ∀ W, Below w.heap.size w W → Hid (Calls Try.prog 86 #[.slice a n c, .int .i64 oa, .int .i64 z] W (PutP W L2 ok))) :
    Calls Try.prog 76 #[.agg #[.int .i64 5, .slice a n c, .bool b, .int .i64 t], .agg #[.int .i64 8, .int .i64 oa, .int .i64 ob]] w (StepP w (.slice a n c) (if ok = true then ((⟨5, L2, b, t⟩ : St), z) else ((⟨5, L, b, t⟩ : St), -2))) := by
  rcases hs with ⟨h0, hs⟩ | ⟨h0, rfl⟩ <;> cases ok
  all_goals
    first | rw [if_pos rfl] | rw [if_neg (by simp)]
    go_enter Try.func76, Try.ntmps76
    go_wp2_with fail
    go_quiet (first | (go_at_call 84; with_reducible exact Calls.quiet_of (HA _ (below3d w _ _ _ _)).out) | (go_at_call 60; first | with_reducible exact Calls.quiet_of_same (HC1 _).out | with_reducible exact Calls.quiet_of_same (HC2 _).out))
    go_wp2_with fail
    refine (HP _ (below3d w _ _ _ _)).out.mono ?_
    rintro e w4 ⟨v4, rfl, hrd, how, hb4'⟩
    obtain ⟨a4, c4, rfl, _⟩ := id hrd
    have HB' := Lib.hid hb4'
    have HO4 := Lib.hid how
    clear hb4' hrd how
    obtain ⟨b0, b1, b2, hz4, hb4⟩ := box_facts (k := 5) (t := t) (co := 8) (oa := oa) (ob := ob) (vl := .slice a n c) (b := b) (below_undrew (HB'.out.mono (by simp : w.heap.size + 1 + 1 + 1 ≤ _)))
    have hk0 : w4.cell? ⟨w.heap.size, 0, none⟩ = some (.int .i64 5) := by rw [b0.cell]; rfl
    have hk1 : w4.cell? ⟨w.heap.size, 1, none⟩ = some (.slice a n c) := by rw [b0.cell]; rfl
    have hk2 : w4.cell? ⟨w.heap.size, 2, none⟩ = some (.bool b) := by rw [b0.cell]; rfl
    have hk3 : w4.cell? ⟨w.heap.size, 3, none⟩ = some (.int .i64 t) := by rw [b0.cell]; rfl
    have ho0 : w4.cell? ⟨w.heap.size + 1, 0, none⟩ = some (.int .i64 8) := by rw [b1.cell]; rfl
    have ho1 : w4.cell? ⟨w.heap.size + 1, 1, none⟩ = some (.int .i64 oa) := by rw [b1.cell]; rfl
    have ho2 : w4.cell? ⟨w.heap.size + 1, 2, none⟩ = some (.int .i64 ob) := by rw [b1.cell]; rfl
    have hr0 : w4.cell? ⟨w.heap.size + 1 + 1, 0, none⟩ = some (.int .i64 0) := by rw [b2.cell]; rfl
    have hr1 : w4.cell? ⟨w.heap.size + 1 + 1, 1, none⟩ = some (.slice none 0 0) := by rw [b2.cell]; rfl
    have hr2 : w4.cell? ⟨w.heap.size + 1 + 1, 2, none⟩ = some (.bool false) := by rw [b2.cell]; rfl
    have hr3 : w4.cell? ⟨w.heap.size + 1 + 1, 3, none⟩ = some (.int .i64 0) := by rw [b2.cell]; rfl
    have hfz0 := b0.frozen 1
    have hfr0 := b2.frozen 0
    have hfr1 := b2.frozen 1
    have hfr2 := b2.frozen 2
    have hfr3 := b2.frozen 3
    have B0 := Lib.hid b0
    have B2 := Lib.hid b2
    have HB4 := Lib.hid hb4
    clear b0 b1 b2 hb4 HB'
    go_wp2_with fail
  · refine bodyPost_ret (v := .tuple #[.agg #[.int .i64 5, .slice a n c, .bool b, .int .i64 t], .int .i64 (-2)]) ?_ rfl ?_
    · simp [results, Try.results76, go_sem, hr0, hr1, hr2, hr3]
    · exact stepp_same HX.out (below_res HB4.out _ (by omega) _ _ _ _)
  · refine bodyPost_ret (v := .tuple #[.agg #[.int .i64 5, .slice a4 L2.length c4, .bool b, .int .i64 t], .int .i64 z]) ?_ rfl ?_
    · simp [results, Try.results76, go_sem, hr0, hr1, hr2, hr3]
    · exact stepp_own B0.out B2.out (sets_keeps _ _ _ _ _ _ _ _) HB4.out (Nat.le_refl _) (by omega) (HO4.out trivial).1 ((HO4.out trivial).2.mono (below3d w _ _ _ _).size) _ _ _ _
  · refine bodyPost_ret (v := .tuple #[.agg #[.int .i64 5, .slice a n c, .bool b, .int .i64 t], .int .i64 (-2)]) ?_ rfl ?_
    · simp [results, Try.results76, go_sem, hr0, hr1, hr2, hr3]
    · exact stepp_same HX.out (below_res HB4.out _ (by omega) _ _ _ _)
  · refine bodyPost_ret (v := .tuple #[.agg #[.int .i64 5, .slice a4 L2.length c4, .bool b, .int .i64 t], .int .i64 z]) ?_ rfl ?_
    · simp [results, Try.results76, go_sem, hr0, hr1, hr2, hr3]
    · exact stepp_own B0.out B2.out (sets_keeps _ _ _ _ _ _ _ _) HB4.out (Nat.le_refl _) (by omega) (HO4.out trivial).1 ((HO4.out trivial).2.mono (below3d w _ _ _ _).size) _ _ _ _

theorem rd_inj {w : World} {v : Value} {xs ys : List Int} (h : Rd w v xs) (h' : Rd w v ys) : xs = ys := by
  obtain ⟨a, c, rfl, h1, h2, h3⟩ := h
  obtain ⟨a', c', e, h1', h2', h3'⟩ := h'
  simp only [Value.slice.injEq] at e
  obtain ⟨rfl, hl, rfl⟩ := e
  refine List.ext_getElem hl fun i hi hi' => ?_
  obtain ⟨b, o, rfl, _, hc⟩ := h3 (by omega)
  obtain ⟨b', o', e, _, hc'⟩ := h3' (by omega)
  simp only [Option.some.injEq, Addr.mk.injEq] at e
  obtain ⟨rfl, rfl, _⟩ := e
  have := (hc i hi).symm.trans (hc' i hi')
  simpa [List.getD_eq_getElem?_getD, List.getElem?_eq_getElem hi, List.getElem?_eq_getElem hi'] using this

/-- A callee's state, behind the stores into the caller's result. -/
theorem stepp_pass {w W w1 : World} {vl v : Value} {L0 : List Int} {r : St × Int} {C : Nat} {cs : Array Value} (hx : Rd w vl L0) (hW : Below w.heap.size w W) (hC : Blk W C cs 24) (hC0 : w.heap.size ≤ C)
    (h1 : Rd w1 v r.1.L) (h2 : Below W.heap.size W w1) (h3 : v = vl ∨ (Own w1 3 1 v r.1.L.length (ints r.1.L) ∧ Fresh W.heap.size v)) (v1 v2 v3 v4 : Value) :
    StepP w vl r (.returned (.tuple #[.agg #[.int .i64 r.1.kind, v, .bool r.1.isSealed, .int .i64 r.1.to], .int .i64 r.2])) ((((w1.setCell ⟨C, 0, none⟩ v1).setCell ⟨C, 1, none⟩ v2).setCell ⟨C, 2, none⟩ v3).setCell ⟨C, 3, none⟩ v4) := by
  have hk : Keeps (fun k => k = C) w1 ((((w1.setCell ⟨C, 0, none⟩ v1).setCell ⟨C, 1, none⟩ v2).setCell ⟨C, 2, none⟩ v3).setCell ⟨C, 3, none⟩ v4) :=
    ((((Keeps.refl (fun k => k = C) w1).set C 0 (.inl rfl) _).set C 1 (.inl rfl) _).set C 2 (.inl rfl) _).set C 3 (.inl rfl) _
  have hb : Below w.heap.size w w1 := hW.trans (h2.mono hW.size)
  have hB := hb.trans (hk.below (B := w.heap.size) (by rintro k rfl; exact hC0) hb.size)
  have hC1 := hC.below h2 hC.lt
  rcases h3 with rfl | h3
  · have e := rd_inj h1 (hx.below hb (Nat.le_refl _))
    exact ⟨_, rfl, e ▸ hx.below hB (Nat.le_refl _), hB, .inl rfl⟩
  · have h := own_keeps h3.1 hk fun q hq e => own_blk_ne h3.1 hC1 (by decide) (e ▸ hq)
    exact ⟨_, rfl, own_rd h, hB, .inr ⟨h, h3.2.mono hW.size⟩⟩

set_option maxRecDepth 100000 in
set_option maxHeartbeats 6400000 in
theorem o_ledger_move {w : World} {n c : Nat} {a : Option Addr} {L : List Int} {b : Bool} {t oa ob : Int} {r : St × Int} (HX : Hid (Rd w (.slice a n c) L))
    (HM : ∀ W, Below w.heap.size w W → Hid (Calls Try.prog 87 #[.agg #[.int .i64 5, .slice a n c, .bool b, .int .i64 t], .agg #[.int .i64 9, .int .i64 oa, .int .i64 ob]] W (StepP W (.slice a n c) r))) :
    Calls Try.prog 76 #[.agg #[.int .i64 5, .slice a n c, .bool b, .int .i64 t], .agg #[.int .i64 9, .int .i64 oa, .int .i64 ob]] w (StepP w (.slice a n c) r) := by
  go_enter Try.func76, Try.ntmps76
  go_wp2_with fail
  refine (HM _ (below3 w _ _ _)).out.mono ?_
  rintro e w4 ⟨v4, rfl, hrd, hb4', hor⟩
  obtain ⟨a4, c4, rfl, _⟩ := id hrd
  obtain ⟨b0, b1, b2, hz4, hb4⟩ := box_facts (k := 5) (t := t) (co := 9) (oa := oa) (ob := ob) (vl := .slice a n c) (b := b) (hb4'.mono (by simp : w.heap.size + 1 + 1 + 1 ≤ _))
  have hr0 : w4.cell? ⟨w.heap.size + 1 + 1, 0, none⟩ = some (.int .i64 0) := by rw [b2.cell]; rfl
  have hr1 : w4.cell? ⟨w.heap.size + 1 + 1, 1, none⟩ = some (.slice none 0 0) := by rw [b2.cell]; rfl
  have hr2 : w4.cell? ⟨w.heap.size + 1 + 1, 2, none⟩ = some (.bool false) := by rw [b2.cell]; rfl
  have hr3 : w4.cell? ⟨w.heap.size + 1 + 1, 3, none⟩ = some (.int .i64 0) := by rw [b2.cell]; rfl
  have hfr0 := b2.frozen 0
  have hfr1 := b2.frozen 1
  have hfr2 := b2.frozen 2
  have hfr3 := b2.frozen 3
  have HB4 := Lib.hid hb4'
  have HR := Lib.hid hrd
  have HO := Lib.hid hor
  clear b0 b1 b2 hb4 hb4' hrd hor
  obtain ⟨⟨k', L', b', t'⟩, m'⟩ := r
  go_wp2_with fail
  refine bodyPost_ret (v := .tuple #[.agg #[.int .i64 k', .slice a4 L'.length c4, .bool b', .int .i64 t'], .int .i64 m']) ?_ rfl ?_
  · simp [results, Try.results76, go_sem, hr0, hr1, hr2, hr3]
  · have := Blk.new ((w.alloc (.cells #[.int .i64 5, .slice a n c, .bool b, .int .i64 t] 24)).alloc (.cells #[.int .i64 9, .int .i64 oa, .int .i64 ob] 37)) #[.int .i64 0, .slice none 0 0, .bool false, .int .i64 0] 24
    simp only [World.size_alloc] at this
    exact stepp_pass (r := (⟨k', L', b', t'⟩, m')) HX.out (below3 w _ _ _) this (by omega) HR.out HB4.out HO.out _ _ _ _

theorem o_ledger {w : World} {vl : Value} (s : St) (o : Op3) (hx : Rd w vl s.L) (hk : s.kind = 5) (hm : mayB s = true) :
    Calls Try.prog 76 #[.agg #[.int .i64 s.kind, vl, .bool s.isSealed, .int .i64 s.to], .agg #[.int .i64 o.code, .int .i64 o.a, .int .i64 o.b]] w (StepP w vl (ledgerS s o)) := by
  by_cases c9 : o.code = 9
  · have hM := fun W (hB : Below w.heap.size w W) => Lib.hid (o_move s o (hx.below hB (Nat.le_refl _)) hk c9 hm)
    have hr : ledgerS s o = moveS s o := by unfold ledgerS; rw [if_pos c9]
    rw [hr]
    generalize moveS s o = r at *
    obtain ⟨k, L, b, t⟩ := s
    obtain ⟨co, oa, ob⟩ := o
    simp only at hx hk c9 hM ⊢
    subst hk
    subst c9
    obtain ⟨a, c, rfl, _⟩ := id hx
    exact o_ledger_move (Lib.hid hx) hM
  obtain ⟨hev, h128⟩ := may_pairs (.inr hk) hm
  have hbd := may_ledger hk hm
  obtain ⟨k, L, b, t⟩ := s
  obtain ⟨co, oa, ob⟩ := o
  simp only at hx hk hev h128 hm hbd c9 ⊢
  subst hk
  have HX := Lib.hid hx
  obtain ⟨a, c, rfl, _⟩ := id hx
  have HH := fun W (hB : Below w.heap.size w W) => Lib.hid (o_has (w := W) (HX.out.below hB (Nat.le_refl _)) (by omega) hev oa)
  have g9 : (co == 9) = false := by simpa using c9
  by_cases hc : co ≠ 7 ∧ co ≠ 8
  · have hr : ledgerS ⟨5, L, b, t⟩ ⟨co, oa, ob⟩ = ((⟨5, L, b, t⟩ : St), 0) := by unfold ledgerS; simp only; rw [if_neg c9, if_pos hc]
    rw [hr]
    exact o_ledger_no g9 (.inl ⟨by simpa using hc.1, by simpa using hc.1, by simpa using hc.2, rfl⟩) HX
  by_cases ha : oa < 0 ∨ 255 < oa
  · have hr : ledgerS ⟨5, L, b, t⟩ ⟨co, oa, ob⟩ = ((⟨5, L, b, t⟩ : St), -1) := by unfold ledgerS; simp only; rw [if_neg c9, if_neg hc, if_pos ha]
    rw [hr]
    refine o_ledger_no g9 ?_ HX
    have : co = 7 ∨ co = 8 := by omega
    rcases this with rfl | rfl
    · exact .inr (.inl ⟨rfl, by omega, rfl⟩)
    · exact .inr (.inr ⟨rfl, by omega, rfl⟩)
  by_cases c7 : co = 7
  · have hr : ledgerS ⟨5, L, b, t⟩ ⟨co, oa, ob⟩ = ((⟨5, L, b, t⟩ : St), hasI L oa) := by unfold ledgerS; simp only; rw [if_neg c9, if_neg hc, if_neg ha, if_pos c7]
    rw [hr]
    subst c7
    exact o_ledger_read (by omega) (by omega) HX HH
  have c8 : co = 8 := by omega
  subst c8
  by_cases hb : ob < 0
  · have hr : ledgerS ⟨5, L, b, t⟩ ⟨8, oa, ob⟩ = ((⟨5, L, b, t⟩ : St), -1) := by unfold ledgerS; simp only; rw [if_neg c9, if_neg hc, if_neg ha, if_neg c7, if_pos hb]
    rw [hr]
    exact o_ledger_no g9 (.inr (.inr ⟨rfl, by omega, rfl⟩)) HX
  · have hr : ledgerS ⟨5, L, b, t⟩ ⟨8, oa, ob⟩ = if putB L oa = true then ((⟨5, putL L oa (cutI (max (hasI L oa) 0 + cutI ob)), b, t⟩ : St), cutI (max (hasI L oa) 0 + cutI ob)) else ((⟨5, L, b, t⟩ : St), -2) := by unfold ledgerS; simp only; rw [if_neg c9, if_neg hc, if_neg ha, if_neg c7, if_neg hb]
    rw [hr]
    have hP := fun W (hB : Below w.heap.size w W) => Lib.hid (o_put (w := W) (HX.out.below hB (Nat.le_refl _)) (by omega) hev oa (cutI (max (hasI L oa) 0 + cutI ob)))
    exact o_ledger_add (by omega) (by omega) hb HX HH (fun W => Lib.hid (o_cut ob W)) (fun W => Lib.hid (o_cut (max (hasI L oa) 0 + cutI ob) W)) (cutI_range ob).1 (cutI_range ob).2 (hbd oa).2 (by omega) hP
end Go.Proofs.Ytjfenjnnpikkdaa
/- Package objs: the walk of Step. -/
namespace Go.Proofs.Ytjfenjnnpikkdaa
set_option maxRecDepth 100000
open Go.RowKit

theorem step_open {w w4 : World} {k t co oa ob : Int} {vl : Value} {b : Bool} (h : Below (w.heap.size + 1 + 1 + 1) (((w.alloc (.cells #[.int .i64 k, vl, .bool b, .int .i64 t] 24)).alloc (.cells #[.int .i64 co, .int .i64 oa, .int .i64 ob] 37)).alloc (.cells #[.int .i64 0, .slice none 0 0, .bool false, .int .i64 0] 24)) w4) :
    (w4.cell? ⟨w.heap.size, 0, none⟩ = some (.int .i64 k) ∧ w4.cell? ⟨w.heap.size, 1, none⟩ = some vl ∧ w4.cell? ⟨w.heap.size, 2, none⟩ = some (.bool b) ∧ w4.cell? ⟨w.heap.size, 3, none⟩ = some (.int .i64 t)) ∧
    (w4.cell? ⟨w.heap.size + 1, 0, none⟩ = some (.int .i64 co) ∧ w4.cell? ⟨w.heap.size + 1, 1, none⟩ = some (.int .i64 oa) ∧ w4.cell? ⟨w.heap.size + 1, 2, none⟩ = some (.int .i64 ob)) ∧
    (w4.cell? ⟨w.heap.size + 1 + 1, 0, none⟩ = some (.int .i64 0) ∧ w4.cell? ⟨w.heap.size + 1 + 1, 1, none⟩ = some (.slice none 0 0) ∧ w4.cell? ⟨w.heap.size + 1 + 1, 2, none⟩ = some (.bool false) ∧ w4.cell? ⟨w.heap.size + 1 + 1, 3, none⟩ = some (.int .i64 0)) ∧
    (w4.frozen? ⟨w.heap.size, 2, none⟩ = false ∧ w4.frozen? ⟨w.heap.size, 3, none⟩ = false) ∧
    (w4.frozen? ⟨w.heap.size + 1 + 1, 0, none⟩ = false ∧ w4.frozen? ⟨w.heap.size + 1 + 1, 1, none⟩ = false ∧ w4.frozen? ⟨w.heap.size + 1 + 1, 2, none⟩ = false ∧ w4.frozen? ⟨w.heap.size + 1 + 1, 3, none⟩ = false) := by
  obtain ⟨b0, b1, b2, _, _⟩ := box_facts h
  refine ⟨⟨?_, ?_, ?_, ?_⟩, ⟨?_, ?_, ?_⟩, ⟨?_, ?_, ?_, ?_⟩, ⟨b0.frozen 2, b0.frozen 3⟩, b2.frozen 0, b2.frozen 1, b2.frozen 2, b2.frozen 3⟩
  all_goals first | rw [b0.cell]; rfl | rw [b1.cell]; rfl | rw [b2.cell]; rfl

/-- The stores of a seal: into the boxed state, into the result. -/
theorem seal_keeps (w4 : World) (B C : Nat) (v1 v2 v3 v4 v5 v6 : Value) : Keeps (fun k => k = B ∨ k = C) w4 ((((((w4.setCell ⟨B, 2, none⟩ v1).setCell ⟨B, 3, none⟩ v6).setCell ⟨C, 0, none⟩ v2).setCell ⟨C, 1, none⟩ v3).setCell ⟨C, 2, none⟩ v4).setCell ⟨C, 3, none⟩ v5) :=
  (((((((Keeps.refl _ w4).set B 2 (.inl (.inl rfl)) _).set B 3 (.inl (.inl rfl)) _).set C 0 (.inl (.inr rfl)) _).set C 1 (.inl (.inr rfl)) _).set C 2 (.inl (.inr rfl)) _).set C 3 (.inl (.inr rfl)) _)
theorem seal_keeps' (w4 : World) (B C : Nat) (v1 v2 v3 v4 v5 : Value) : Keeps (fun k => k = B ∨ k = C) w4 (((((w4.setCell ⟨B, 2, none⟩ v1).setCell ⟨C, 0, none⟩ v2).setCell ⟨C, 1, none⟩ v3).setCell ⟨C, 2, none⟩ v4).setCell ⟨C, 3, none⟩ v5) :=
  ((((((Keeps.refl _ w4).set B 2 (.inl (.inl rfl)) _).set C 0 (.inl (.inr rfl)) _).set C 1 (.inl (.inr rfl)) _).set C 2 (.inl (.inr rfl)) _).set C 3 (.inl (.inr rfl)) _)

set_option maxRecDepth 100000 in
set_option maxHeartbeats 6400000 in
theorem o_step_no {w : World} {n c : Nat} {a : Option Addr} {L : List Int} {b m : Bool} {k t co oa ob r : Int} (HX : Hid (Rd w (.slice a n c) L))
    (HM : ∀ W, Below w.heap.size w W → Hid (Calls Try.prog 37 #[.agg #[.int .i64 k, .slice a n c, .bool b, .int .i64 t]] W (Tells W m)))
    (h : (m = false ∧ r = 0) ∨ (m = true ∧ b = true ∧ r = -1125899906842624)) :
    Calls Try.prog 55 #[.agg #[.int .i64 k, .slice a n c, .bool b, .int .i64 t], .agg #[.int .i64 co, .int .i64 oa, .int .i64 ob]] w (StepP w (.slice a n c) ((⟨k, L, b, t⟩ : St), r)) := by
  rcases h with ⟨rfl, rfl⟩ | ⟨rfl, rfl, rfl⟩
  all_goals
    go_enter Try.func55, Try.ntmps55
    go_wp2_with fail
    refine (HM _ (below3 w _ _ _)).out.mono ?_
    rintro e w4 ⟨rfl, hb4⟩
    have hB' := hb4.mono (by simp : w.heap.size + 1 + 1 + 1 ≤ _)
    obtain ⟨⟨hk0, hk1, hk2, hk3⟩, ⟨ho0, ho1, ho2⟩, ⟨hr0, hr1, hr2, hr3⟩, ⟨hz2, hz3⟩, hf0, hf1, hf2, hf3⟩ := step_open hB'
    have HB := Lib.hid hB'
    clear hb4 hB'
    go_wp2_with fail
  · refine bodyPost_ret (v := .tuple #[.agg #[.int .i64 k, .slice a n c, .bool b, .int .i64 t], .int .i64 0]) ?_ rfl ?_
    · simp [results, Try.results55, go_sem, hr0, hr1, hr2, hr3]
    · exact stepp_same HX.out (below_res ((below3 w _ _ _).trans (HB.out.mono (by omega))) _ (by omega) _ _ _ _)
  · refine bodyPost_ret (v := .tuple #[.agg #[.int .i64 k, .slice a n c, .bool true, .int .i64 t], .int .i64 (-1125899906842624)]) ?_ rfl ?_
    · simp [results, Try.results55, go_sem, hr0, hr1, hr2, hr3]
    · exact stepp_same HX.out (below_res ((below3 w _ _ _).trans (HB.out.mono (by omega))) _ (by omega) _ _ _ _)

set_option maxRecDepth 100000 in
set_option maxHeartbeats 6400000 in
theorem o_step_seal {w : World} {n c : Nat} {a : Option Addr} {L : List Int} {k t t' oa ob : Int} (HX : Hid (Rd w (.slice a n c) L))
    (HM : ∀ W, Below w.heap.size w W → Hid (Calls Try.prog 37 #[.agg #[.int .i64 k, .slice a n c, .bool false, .int .i64 t]] W (Tells W true)))
    (h : (¬ 0 ≤ oa ∧ t' = t) ∨ (0 ≤ oa ∧ ¬ oa < 3 ∧ t' = t) ∨ (0 ≤ oa ∧ oa < 3 ∧ t' = oa)) :
    Calls Try.prog 55 #[.agg #[.int .i64 k, .slice a n c, .bool false, .int .i64 t], .agg #[.int .i64 10, .int .i64 oa, .int .i64 ob]] w (StepP w (.slice a n c) ((⟨k, L, true, t'⟩ : St), 0)) := by
  rcases h with ⟨h1, rfl⟩ | ⟨h1, h2, rfl⟩ | ⟨h1, h2, rfl⟩
  all_goals
    go_enter Try.func55, Try.ntmps55
    go_wp2_with fail
    refine (HM _ (below3 w _ _ _)).out.mono ?_
    rintro e w4 ⟨rfl, hb4⟩
    have hB' := hb4.mono (by simp : w.heap.size + 1 + 1 + 1 ≤ _)
    obtain ⟨⟨hk0, hk1, hk2, hk3⟩, ⟨ho0, ho1, ho2⟩, ⟨hr0, hr1, hr2, hr3⟩, ⟨hz2, hz3⟩, hf0, hf1, hf2, hf3⟩ := step_open hB'
    have HB := Lib.hid hB'
    clear hb4 hB'
    go_wp2_with fail
    refine bodyPost_ret (v := .tuple #[.agg #[.int .i64 k, .slice a n c, .bool true, .int .i64 t'], .int .i64 0]) ?_ rfl ?_
    · simp [results, Try.results55, go_sem, hr0, hr1, hr2, hr3]
    · have hB := (below3 w _ _ _).trans (HB.out.mono (by omega))
      have g1 := fun (v1 v2 v3 v4 v5 : Value) => hB.trans ((seal_keeps' w4 w.heap.size (w.heap.size + 1 + 1) v1 v2 v3 v4 v5).below (B := w.heap.size) (by rintro k (rfl | rfl) <;> omega) hB.size)
      have g2 := fun (v1 v2 v3 v4 v5 v6 : Value) => hB.trans ((seal_keeps w4 w.heap.size (w.heap.size + 1 + 1) v1 v2 v3 v4 v5 v6).below (B := w.heap.size) (by rintro k (rfl | rfl) <;> omega) hB.size)
      refine stepp_same HX.out ?_
      first
        | with_reducible exact g1 _ _ _ _ _
        | with_reducible exact g2 _ _ _ _ _ _

set_option maxRecDepth 100000 in
set_option maxHeartbeats 6400000 in
theorem o_step_do {w : World} {n c : Nat} {a : Option Addr} {L : List Int} {k t co oa ob : Int} {r : St × Int} (HX : Hid (Rd w (.slice a n c) L))
    (HM : ∀ W, Below w.heap.size w W → Hid (Calls Try.prog 37 #[.agg #[.int .i64 k, .slice a n c, .bool false, .int .i64 t]] W (Tells W true)))
    (g : (co == 10) = false) (f : FuncId)
    (hf : ((k = 0 ∨ k = 1) ∧ f = 73) ∨ ((k = 2 ∨ k = 3) ∧ f = 74) ∨ (k = 4 ∧ f = 75) ∨ (k = 5 ∧ f = 76))
    (HS : ∀ W, Below w.heap.size w W → Hid (Calls Try.prog f #[.agg #[.int .i64 k, .slice a n c, .bool false, .int .i64 t], .agg #[.int .i64 co, .int .i64 oa, .int .i64 ob]] W (StepP W (.slice a n c) r))) :
    Calls Try.prog 55 #[.agg #[.int .i64 k, .slice a n c, .bool false, .int .i64 t], .agg #[.int .i64 co, .int .i64 oa, .int .i64 ob]] w (StepP w (.slice a n c) r) := by
  rcases hf with ⟨rfl | rfl, rfl⟩ | ⟨rfl | rfl, rfl⟩ | ⟨rfl, rfl⟩ | ⟨rfl, rfl⟩
  all_goals
    go_enter Try.func55, Try.ntmps55
    go_wp2_with fail
    refine (HM _ (below3 w _ _ _)).out.mono ?_
    rintro e w4 ⟨rfl, hb4⟩
    have hB' := hb4.mono (by simp : w.heap.size + 1 + 1 + 1 ≤ _)
    obtain ⟨⟨hk0, hk1, hk2, hk3⟩, ⟨ho0, ho1, ho2⟩, ⟨hr0, hr1, hr2, hr3⟩, ⟨hz2, hz3⟩, hf0, hf1, hf2, hf3⟩ := step_open hB'
    have HB := Lib.hid hB'
    clear hb4 hB'
    go_wp2_with fail
    refine (HS _ ((below3 w _ _ _).trans (HB.out.mono (by omega)))).out.mono ?_
    rintro e w5 ⟨v5, rfl, hrd, hb5, hor⟩
    obtain ⟨a4, c4, rfl, _⟩ := id hrd
    clear hk0 hk1 hk2 hk3 ho0 ho1 ho2 hr0 hr1 hr2 hr3 hz2 hz3 hf0 hf1 hf2 hf3
    have hB5 := HB.out.trans (hb5.mono (by have := HB.out.size; simpa using this))
    obtain ⟨⟨hk0, hk1, hk2, hk3⟩, ⟨ho0, ho1, ho2⟩, ⟨hr0, hr1, hr2, hr3⟩, ⟨hz2, hz3⟩, hf0, hf1, hf2, hf3⟩ := step_open hB5
    have HB5 := Lib.hid hb5
    have HR := Lib.hid hrd
    have HO := Lib.hid hor
    clear hB5 hb5 hrd hor hk0 hk1 hk2 hk3 ho0 ho1 ho2 hz2 hz3
    obtain ⟨⟨k', L', b', t'⟩, m'⟩ := r
    go_wp2_with fail
    refine bodyPost_ret (v := .tuple #[.agg #[.int .i64 k', .slice a4 L'.length c4, .bool b', .int .i64 t'], .int .i64 m']) ?_ rfl ?_
    · simp [results, Try.results55, go_sem, hr0, hr1, hr2, hr3]
    · exact stepp_pass (r := (⟨k', L', b', t'⟩, m')) HX.out ((below3 w _ _ _).trans (HB.out.mono (by omega))) (box_facts HB.out).2.2.1 (by omega) HR.out HB5.out HO.out _ _ _ _

theorem may_kind {s : St} (hm : mayB s = true) : (s.kind = 0 ∨ s.kind = 1) ∨ (s.kind = 2 ∨ s.kind = 3) ∨ s.kind = 4 ∨ s.kind = 5 := by
  unfold mayB at hm
  split at hm
  · simp at hm
  · by_cases h : (s.kind = 0 ∨ s.kind = 1) ∨ (s.kind = 2 ∨ s.kind = 3) ∨ s.kind = 4 ∨ s.kind = 5
    · exact h
    · simp only [not_or] at h
      simp [h] at hm

theorem o_step {w : World} {vl : Value} (s : St) (o : Op3) (hx : Rd w vl s.L) (hl : s.L.length ≤ 17592186044416) :
    Calls Try.prog 55 #[.agg #[.int .i64 s.kind, vl, .bool s.isSealed, .int .i64 s.to], .agg #[.int .i64 o.code, .int .i64 o.a, .int .i64 o.b]] w (StepP w vl (stepS s o)) := by
  have HM := fun W (hB : Below w.heap.size w W) => Lib.hid (o_may (w := W) s (hx.below hB (Nat.le_refl _)) hl)
  have HX := Lib.hid hx
  obtain ⟨a, c, rfl, _⟩ := id hx
  by_cases hm : mayB s = false
  · have hr : stepS s o = (s, 0) := by unfold stepS; rw [if_pos hm]
    rw [hr]
    rw [hm] at HM
    exact o_step_no HX HM (.inl ⟨rfl, rfl⟩)
  have hm' : mayB s = true := by simpa using hm
  rw [hm'] at HM
  by_cases hs : s.isSealed = true
  · have hr : stepS s o = (s, -1125899906842624) := by unfold stepS; rw [if_neg hm, if_pos hs]
    rw [hr]
    exact o_step_no HX HM (.inr ⟨rfl, hs, rfl⟩)
  have hs' : s.isSealed = false := by simpa using hs
  by_cases hc : o.code = 10
  · have hr : stepS s o = ({ s with isSealed := true, to := if 0 ≤ o.a ∧ o.a < 3 then o.a else s.to }, 0) := by unfold stepS; rw [if_neg hm, if_neg hs, if_pos hc]
    rw [hr]
    rw [hs'] at HM ⊢
    rw [hc]
    refine o_step_seal HX HM ?_
    by_cases h1 : 0 ≤ o.a
    · by_cases h2 : o.a < 3
      · exact .inr (.inr ⟨h1, h2, by simp [h1, h2]⟩)
      · exact .inr (.inl ⟨h1, h2, by simp [h2]⟩)
    · exact .inl ⟨h1, by simp [h1]⟩
  have g : (o.code == 10) = false := by simpa using hc
  have key : ∀ (f : FuncId) (r : St × Int), (((s.kind = 0 ∨ s.kind = 1) ∧ f = 73) ∨ ((s.kind = 2 ∨ s.kind = 3) ∧ f = 74) ∨ (s.kind = 4 ∧ f = 75) ∨ (s.kind = 5 ∧ f = 76)) →
      (∀ W, Below w.heap.size w W → Hid (Calls Try.prog f #[.agg #[.int .i64 s.kind, .slice a s.L.length c, .bool s.isSealed, .int .i64 s.to], .agg #[.int .i64 o.code, .int .i64 o.a, .int .i64 o.b]] W (StepP W (.slice a s.L.length c) r))) → stepS s o = r →
      Calls Try.prog 55 #[.agg #[.int .i64 s.kind, .slice a s.L.length c, .bool s.isSealed, .int .i64 s.to], .agg #[.int .i64 o.code, .int .i64 o.a, .int .i64 o.b]] w (StepP w (.slice a s.L.length c) (stepS s o)) := by
    intro f r hf hS hr
    rw [hr]
    rw [hs'] at HM hS ⊢
    exact o_step_do HX HM g f hf hS
  rcases may_kind hm' with hk | hk | hk | hk
  · exact key _ (numberS s o) (.inl ⟨hk, rfl⟩) (fun W hB => Lib.hid (o_number s o (hx.below hB (Nat.le_refl _)) hk hm')) (by unfold stepS; rw [if_neg hm, if_neg hs, if_neg hc, if_pos hk])
  · exact key _ (lineS s o) (.inr (.inl ⟨hk, rfl⟩)) (fun W hB => Lib.hid (o_line s o (hx.below hB (Nat.le_refl _)) hk hm')) (by unfold stepS; rw [if_neg hm, if_neg hs, if_neg hc, if_neg (by omega), if_pos hk])
  · exact key _ (storeS s o) (.inr (.inr (.inl ⟨hk, rfl⟩))) (fun W hB => Lib.hid (o_store s o (hx.below hB (Nat.le_refl _)) hk hm')) (by unfold stepS; rw [if_neg hm, if_neg hs, if_neg hc, if_neg (by omega), if_neg (by omega), if_pos hk])
  · exact key _ (ledgerS s o) (.inr (.inr (.inr ⟨hk, rfl⟩))) (fun W hB => Lib.hid (o_ledger s o (hx.below hB (Nat.le_refl _)) hk hm')) (by unfold stepS; rw [if_neg hm, if_neg hs, if_neg hc, if_neg (by omega), if_neg (by omega), if_neg (by omega)])
end Go.Proofs.Ytjfenjnnpikkdaa
/- Package objs: the walks of Fits, Same, Start. -/
namespace Go.Proofs.Ytjfenjnnpikkdaa
set_option maxRecDepth 100000
open Go.RowKit

set_option maxRecDepth 100000 in
set_option maxHeartbeats 3200000 in
theorem o_fits {w : World} (o : Op3) : Calls Try.prog 49 #[.agg #[.int .i64 o.code, .int .i64 o.a, .int .i64 o.b]] w (Tells w (fitsB o)) := by
  obtain ⟨co, oa, ob⟩ := o
  have C1 := fun W => Lib.hid (o_cut oa W)
  have C2 := fun W => Lib.hid (o_cut ob W)
  have e : fitsB ⟨co, oa, ob⟩ = (decide (0 ≤ co) && decide (co ≤ 10) && (oa == cutI oa) && (ob == cutI ob)) := rfl
  rw [e]
  clear e
  generalize cutI oa = y at *
  generalize cutI ob = z at *
  have fin : ∀ q, Below w.heap.size w ((w.alloc (.cells #[.int .i64 co, .int .i64 oa, .int .i64 ob] 37)).drewN q) := fun q => ((Below.refl _ w).alloc (Nat.le_refl _) _).trans ⟨rfl, rfl, rfl, Nat.le_refl _, fun _ _ => rfl⟩
  have HF := Lib.hid fin
  clear fin
  have cs : (0 ≤ co ∧ co ≤ 10 ∧ (oa == y) = true ∧ (ob == z) = true) ∨ (0 ≤ co ∧ co ≤ 10 ∧ (oa == y) = true ∧ (ob == z) = false) ∨ (0 ≤ co ∧ co ≤ 10 ∧ (oa == y) = false) ∨ (0 ≤ co ∧ ¬ co ≤ 10) ∨ ¬ 0 ≤ co := by
    by_cases h1 : 0 ≤ co
    · by_cases h2 : co ≤ 10
      · cases h3 : (oa == y)
        · exact .inr (.inr (.inl ⟨h1, h2, rfl⟩))
        · cases h4 : (ob == z)
          · exact .inr (.inl ⟨h1, h2, rfl, rfl⟩)
          · exact .inl ⟨h1, h2, rfl, rfl⟩
      · exact .inr (.inr (.inr (.inl ⟨h1, h2⟩)))
    · exact .inr (.inr (.inr (.inr h1)))
  have key : ∀ r : Bool, r = (decide (0 ≤ co) && decide (co ≤ 10) && (oa == y) && (ob == z)) → Calls Try.prog 49 #[.agg #[.int .i64 co, .int .i64 oa, .int .i64 ob]] w (Tells w r) := by
    intro r hr
    have HR := Lib.hid hr
    rcases cs with ⟨h1, h2, h3, h4⟩ | ⟨h1, h2, h3, h4⟩ | ⟨h1, h2, h3⟩ | ⟨h1, h2⟩ | h1
    · obtain rfl : r = true := by rw [hr, h3, h4]; simp [h1, h2]
      clear hr HR
      go_enter Try.func49, Try.ntmps49
      go_wp2_with fail
      go_quiet (first | (go_at_call 60; first | with_reducible exact Calls.quiet_of_same (C1 _).out | with_reducible exact Calls.quiet_of_same (C2 _).out))
      go_wp2_with fail
      go_ret
      exact ⟨rfl, HF.out _⟩
    all_goals
      obtain rfl : r = false := by rw [hr]; first | rw [h3, h4]; simp | rw [h3]; simp | simp [h1, h2] | simp [h1] | (simp; intros; omega)
      clear hr HR
      try have g1 := decide_eq_false h1
      try have g2 := decide_eq_false h2
      go_enter Try.func49, Try.ntmps49
      go_wp2_with fail
      go_quiet (first | (go_at_call 60; first | with_reducible exact Calls.quiet_of_same (C1 _).out | with_reducible exact Calls.quiet_of_same (C2 _).out))
      go_wp2_with fail
      go_ret
      exact ⟨rfl, HF.out _⟩
  exact key _ rfl

/-- Are two states the same? -/
def sameB (s t : St) : Bool := (s.kind == t.kind) && (s.isSealed == t.isSealed) && (s.to == t.to) && (s.L == t.L)

theorem own_nil (w : World) : Own w 3 1 (.slice none 0 0) 0 [] := ⟨rfl, .inl ⟨rfl, rfl⟩⟩

end Go.Proofs.Ytjfenjnnpikkdaa
/- Layer 4: queues and stacks in plain Lean. -/
namespace Go.Proofs.Ytjfenjnnpikkdaa
set_option maxRecDepth 100000

def Wi (l : List Int) : Prop := ∀ x ∈ l, -1099511627776 ≤ x ∧ x ≤ 1099511627776
theorem cut_in {x : Int} (h : -1099511627776 ≤ x ∧ x ≤ 1099511627776) : cutI x = x := by unfold cutI; rw [if_neg (by omega), if_neg (by omega)]
theorem within_of {l : List Int} (h : Wi l) : withinB l = true := by
  unfold withinB
  simp only [Bool.not_eq_true', List.any_eq_false, bne_iff_ne, ne_eq, Decidable.not_not]
  intro x hx
  exact (cut_in (h x hx)).symm
theorem take_succ_getD : ∀ (l : List Int) (k : Nat), k < l.length → l.take (k + 1) = l.take k ++ [l.getD k 0]
  | [], k, h => by simp at h
  | x :: l, 0, _ => by simp
  | x :: l, k + 1, h => by
    have := take_succ_getD l k (by simpa using h)
    simp only [List.take_succ_cons, List.cons_append, this]
    simp
theorem Wi.sub {l m : List Int} (h : Wi l) (hs : ∀ x ∈ m, x ∈ l) : Wi m := fun x hx => h x (hs x hx)
theorem Wi.drop {l : List Int} (h : Wi l) (k : Nat) : Wi (l.drop k) := h.sub fun _ hx => List.mem_of_mem_drop hx
theorem Wi.take {l : List Int} (h : Wi l) (k : Nat) : Wi (l.take k) := h.sub fun _ hx => List.mem_of_mem_take hx
theorem Wi.snoc {l : List Int} {x : Int} (h : Wi l) (hx : -1099511627776 ≤ x ∧ x ≤ 1099511627776) : Wi (l ++ [x]) := by
  intro y hy
  rcases List.mem_append.1 hy with hy | hy
  · exact h y hy
  · rw [List.mem_singleton.1 hy]; exact hx
end Go.Proofs.Ytjfenjnnpikkdaa
/- Layer 4 in plain Lean: what may be may be behind any operation; seals; moves. -/
namespace Go.Proofs.Ytjfenjnnpikkdaa
set_option maxRecDepth 100000

theorem pairsGo_cons {least last k v : Int} {r : List Int} : pairsGo least last (k :: v :: r) = true ↔ (last < k ∧ k ≤ 255 ∧ least ≤ v ∧ v ≤ 1099511627776) ∧ pairsGo least k r = true := by
  rw [pairsGo]
  by_cases h : k ≤ last ∨ 255 < k ∨ v < least ∨ 1099511627776 < v
  · rw [if_pos h]
    constructor
    · intro e; simp at e
    · rintro ⟨e, _⟩; omega
  · rw [if_neg h]
    constructor
    · intro e; exact ⟨by omega, e⟩
    · rintro ⟨_, e⟩; exact e
theorem pairsGo_weak {least a b : Int} : ∀ {l : List Int}, pairsGo least a l = true → b ≤ a → pairsGo least b l = true
  | k :: v :: r, h, hb => by rw [pairsGo_cons] at h ⊢; exact ⟨by omega, h.2⟩
  | [k], _, _ => by simp [pairsGo]
  | [], _, _ => by simp [pairsGo]
theorem pairs_putR {least key n : Int} : ∀ {l : List Int} {last : Int}, l.length % 2 = 0 → pairsGo least last l = true → last < key → key ≤ 255 → least ≤ n → n ≤ 1099511627776 → pairsGo least last (putR l key n) = true
  | k :: v :: r, last, he, h, h1, h2, h3, h4 => by
    rw [pairsGo_cons] at h
    rw [putR]
    by_cases c : k < key
    · rw [if_pos c, pairsGo_cons]
      exact ⟨h.1, pairs_putR (by simp at he; omega) h.2 c h2 h3 h4⟩
    · rw [if_neg c]
      by_cases d : k = key
      · rw [if_pos d, pairsGo_cons]; exact ⟨by omega, h.2⟩
      · rw [if_neg d, pairsGo_cons, pairsGo_cons]; exact ⟨by omega, by omega, h.2⟩
  | [k], _, he, _, _, _, _, _ => by simp at he
  | [], last, _, _, h1, h2, h3, h4 => by
    rw [putR, pairsGo_cons]
    · exact ⟨by omega, by simp [pairsGo]⟩
    · simp
theorem pairs_delR {least key : Int} : ∀ {l : List Int} {last : Int}, pairsGo least last l = true → pairsGo least last (delR l key) = true
  | k :: v :: r, last, h => by
    rw [pairsGo_cons] at h
    rw [delR]
    by_cases c : k < key
    · rw [if_pos c, pairsGo_cons]; exact ⟨h.1, pairs_delR h.2⟩
    · rw [if_neg c]; exact pairsGo_weak h.2 (by omega)
  | [k], _, h => by simpa [delR] using h
  | [], _, h => by simpa [delR] using h
theorem delR_length (key : Int) : ∀ l : List Int, (delR l key).length % 2 = l.length % 2 ∧ (delR l key).length ≤ l.length
  | k :: v :: r => by
    have ih := delR_length key r
    rw [delR]
    split <;> simp only [List.length_cons] <;> omega
  | [k] => by simp [delR]
  | [] => by simp [delR]
theorem pairs_hasR {least key : Int} : ∀ {l : List Int} {last : Int}, pairsGo least last l = true → foundB l key = true → l.length % 2 = 0 → least ≤ hasI l key ∧ hasI l key ≤ 1099511627776
  | k :: v :: r, last, h, hf, he => by
    rw [pairsGo_cons] at h
    rw [foundB_cons] at hf
    rw [hasI_cons]
    by_cases c : k < key
    · rw [if_pos c] at hf ⊢; exact pairs_hasR h.2 hf (by simp at he; omega)
    · rw [if_neg c] at hf ⊢
      rw [if_pos (by simpa using hf)]; omega
  | [k], _, _, _, he => by simp at he
  | [], _, _, hf, _ => by simp [foundB_nil] at hf
theorem pairsB_iff {l : List Int} {least : Int} : pairsB l least = true ↔ pairsGo least (-1) l = true ∧ l.length % 2 = 0 ∧ l.length ≤ 128 := by
  simp [pairsB]
theorem pairsB_put {l : List Int} {least key n : Int} (h : pairsB l least = true) (hb : putB l key = true) (h1 : 0 ≤ key) (h2 : key ≤ 255) (h3 : least ≤ n) (h4 : n ≤ 1099511627776) : pairsB (putL l key n) least = true := by
  rw [pairsB_iff] at h ⊢
  rw [putL_eq h.2.1 hb]
  refine ⟨pairs_putR h.2.1 h.1 (by omega) h2 h3 h4, putR_even h.2.1, ?_⟩
  rw [putR_length key n l h.2.1]
  split
  · exact h.2.2
  · rename_i hf
    unfold putB at hb
    simp [hf] at hb
    have := h.2.1
    omega
theorem pairsB_del {l : List Int} {least key : Int} (h : pairsB l least = true) : pairsB (delL l key) least = true := by
  rw [pairsB_iff] at h ⊢
  rw [delL_eq h.2.1]
  have := delR_length key l
  exact ⟨pairs_delR h.1, by omega, by omega⟩
theorem pairsB_has {l : List Int} {least key : Int} (h : pairsB l least = true) : hasI l key = -1 ∨ (least ≤ hasI l key ∧ hasI l key ≤ 1099511627776) := by
  rw [pairsB_iff] at h
  cases hf : foundB l key
  · exact .inl (has_unfound hf)
  · exact .inr (pairs_hasR h.1 hf h.2.1)

theorem withinB_iff {l : List Int} : withinB l = true ↔ Wi l := by
  refine ⟨fun h x hx => ?_, within_of⟩
  unfold withinB at h
  simp only [Bool.not_eq_true', List.any_eq_false, bne_iff_ne, ne_eq, Decidable.not_not] at h
  have := cutI_range x
  rw [← h x hx] at this
  exact this
def ToOk (s : St) : Prop := 0 ≤ s.to ∧ s.to < 3 ∧ (s.isSealed = false → s.to = 0)
theorem mayB_iff {s : St} : mayB s = true ↔ ToOk s ∧ (((s.kind = 0 ∨ s.kind = 1) ∧ s.L.length = 1 ∧ Wi s.L) ∨ ((s.kind = 2 ∨ s.kind = 3) ∧ s.L.length ≤ 64 ∧ Wi s.L) ∨ (s.kind = 4 ∧ pairsB s.L (-1099511627776) = true) ∨ (s.kind = 5 ∧ pairsB s.L 0 = true)) := by
  unfold mayB ToOk
  by_cases h : s.to < 0 ∨ 3 ≤ s.to ∨ (s.isSealed = false ∧ s.to ≠ 0)
  · rw [if_pos h]
    constructor
    · intro e; simp at e
    · rintro ⟨⟨h1, h2, h3⟩, _⟩
      rcases h with h | h | ⟨h, h'⟩
      · omega
      · omega
      · exact absurd (h3 h) h'
  · rw [if_neg h]
    have ht : 0 ≤ s.to ∧ s.to < 3 ∧ (s.isSealed = false → s.to = 0) := by
      refine ⟨by omega, by omega, fun e => ?_⟩
      by_cases h0 : s.to = 0
      · exact h0
      · exact absurd (.inr (.inr ⟨e, h0⟩)) h
    rw [← withinB_iff]
    by_cases k0 : s.kind = 0 ∨ s.kind = 1
    · rw [if_pos k0]; simp [ht]
      constructor
      · intro e; exact ⟨ht.2.2, .inl ⟨k0, e⟩⟩
      · rintro ⟨_, ⟨_, e⟩ | ⟨e, _⟩ | ⟨e, _⟩ | ⟨e, _⟩⟩
        · exact e
        all_goals omega
    · rw [if_neg k0]
      by_cases k2 : s.kind = 2 ∨ s.kind = 3
      · rw [if_pos k2]; simp [ht]
        constructor
        · intro e; exact ⟨ht.2.2, .inr (.inl ⟨k2, e⟩)⟩
        · rintro ⟨_, ⟨e, _⟩ | ⟨_, e⟩ | ⟨e, _⟩ | ⟨e, _⟩⟩
          · omega
          · exact e
          all_goals omega
      · rw [if_neg k2]
        by_cases k4 : s.kind = 4
        · rw [if_pos k4]; simp [ht, k4]; exact fun _ => ht.2.2
        · rw [if_neg k4]
          by_cases k5 : s.kind = 5
          · rw [if_pos k5]; simp [ht, k5]; exact fun _ => ht.2.2
          · rw [if_neg k5]; simp; intros; omega

def setL (s : St) (l : List Int) : St := { s with L := l }
theorem number_may {s : St} {o : Op3} (h : s.L.length = 1 ∧ Wi s.L) : ∃ l n, numberS s o = (setL s l, n) ∧ l.length = 1 ∧ Wi l := by
  have hc : ∀ x : Int, ([cutI x] : List Int).length = 1 ∧ Wi [cutI x] := fun x => ⟨rfl, by intro y hy; rw [List.mem_singleton.1 hy]; exact cutI_range x⟩
  unfold numberS
  split
  · exact ⟨_, _, rfl, h⟩
  · split
    · exact ⟨_, _, rfl, hc _⟩
    · split
      · exact ⟨_, _, rfl, hc _⟩
      · exact ⟨_, _, rfl, h⟩
theorem line_may {s : St} {o : Op3} (h : s.L.length ≤ 64 ∧ Wi s.L) : ∃ l n, lineS s o = (setL s l, n) ∧ l.length ≤ 64 ∧ Wi l := by
  unfold lineS
  split
  · exact ⟨_, _, rfl, h⟩
  · split
    · rename_i h1
      exact ⟨_, _, rfl, by simp; omega, h.2.snoc (cutI_range _)⟩
    · split
      · exact ⟨_, _, rfl, h⟩
      · split
        · exact ⟨_, _, rfl, h⟩
        · split
          · exact ⟨_, _, rfl, by simp; omega, h.2.drop _⟩
          · exact ⟨_, _, rfl, by simp; omega, h.2.take _⟩
theorem store_may {s : St} {o : Op3} (h : pairsB s.L (-1099511627776) = true) : ∃ l n, storeS s o = (setL s l, n) ∧ pairsB l (-1099511627776) = true := by
  unfold storeS
  split
  · exact ⟨_, _, rfl, h⟩
  · split
    · exact ⟨_, _, rfl, h⟩
    · rename_i h1 h2
      have hc := cutI_range o.b
      split
      · exact ⟨_, _, rfl, pairsB_del h⟩
      · split
        · split
          · rename_i hb
            exact ⟨_, _, rfl, pairsB_put h hb (by omega) (by omega) hc.1 hc.2⟩
          · exact ⟨_, _, rfl, h⟩
        · exact ⟨_, _, rfl, h⟩
theorem found_of_has {l : List Int} {key : Int} (h : hasI l key ≠ -1) : foundB l key = true := by
  cases hf : foundB l key
  · exact absurd (has_unfound hf) h
  · rfl
/-- A move's second put: the account it comes from is there still. -/
theorem move_from {l : List Int} {a b n : Int} (he : l.length % 2 = 0) (hb : putB l b = true) (hf : foundB l a = true) : putB (putL l b n) a = true := by
  unfold putB
  rw [putL_eq he hb, found_putR _ _ _ _ he, hf]
  simp
theorem move_may {s : St} {o : Op3} (h : pairsB s.L 0 = true) : ∃ l n, moveS s o = (setL s l, n) ∧ pairsB l 0 = true := by
  unfold moveS
  split
  · exact ⟨_, _, rfl, h⟩
  · split
    · exact ⟨_, _, rfl, h⟩
    · split
      · exact ⟨_, _, rfl, h⟩
      · split
        · exact ⟨_, _, rfl, h⟩
        · rename_i h1 h2 h3 h4
          have hpb : putB s.L (o.a % 256) = true := by
            cases hb : putB s.L (o.a % 256)
            · exact absurd (.inl hb) h4
            · rfl
          have hev := (pairsB_iff.1 h).2.1
          have hf : foundB s.L (o.a / 256) = true := found_of_has (by omega)
          have hr := pairsB_has (key := o.a / 256) h
          exact ⟨_, _, rfl, pairsB_put (pairsB_put h hpb (by omega) (by omega) (by omega) (by omega)) (move_from hev hpb hf) (by omega) (by omega) (by omega) (by omega)⟩
theorem ledger_may {s : St} {o : Op3} (h : pairsB s.L 0 = true) : ∃ l n, ledgerS s o = (setL s l, n) ∧ pairsB l 0 = true := by
  unfold ledgerS
  split
  · exact move_may h
  · split
    · exact ⟨_, _, rfl, h⟩
    · split
      · exact ⟨_, _, rfl, h⟩
      · split
        · exact ⟨_, _, rfl, h⟩
        · split
          · exact ⟨_, _, rfl, h⟩
          · split
            · rename_i h1 h2 h3 h4 h5 hb
              have hc := cutI_range (max (hasI s.L o.a) 0 + cutI o.b)
              have hz : 0 ≤ cutI (max (hasI s.L o.a) 0 + cutI o.b) := by
                have : 0 ≤ cutI o.b := by unfold cutI; split <;> (try split) <;> omega
                generalize hx : max (hasI s.L o.a) 0 + cutI o.b = x
                have : 0 ≤ x := by omega
                unfold cutI; split <;> (try split) <;> omega
              exact ⟨_, _, rfl, pairsB_put h hb (by omega) (by omega) hz hc.2⟩
            · exact ⟨_, _, rfl, h⟩

/-- What may be may be behind any operation; what is sealed stays. -/
theorem step_stays {s : St} (o : Op3) (h : mayB s = true) : mayB (stepS s o).1 = true ∧ (stepS s o).1.kind = s.kind ∧ (s.isSealed = true → stepS s o = (s, -1125899906842624)) ∧ (stepS s o).1.isSealed = (s.isSealed || decide (o.code = 10)) := by
  have hm := mayB_iff.1 h
  unfold stepS
  rw [if_neg (by simp [h])]
  by_cases hs : s.isSealed = true
  · rw [if_pos hs]; simp [h, hs]
  · rw [if_neg hs]
    have hs' : s.isSealed = false := by simpa using hs
    by_cases hc : o.code = 10
    · rw [if_pos hc]
      refine ⟨mayB_iff.2 ⟨?_, hm.2⟩, rfl, fun e => absurd e hs, by simp [hc]⟩
      unfold ToOk at hm ⊢
      simp only
      refine ⟨?_, ?_, by simp⟩ <;> split <;> omega
    · rw [if_neg hc]
      have key : ∀ {r : St × Int}, (∃ l n, r = (setL s l, n) ∧ (ToOk s → mayB (setL s l) = true)) → mayB r.1 = true ∧ r.1.kind = s.kind ∧ (s.isSealed = true → r = (s, -1125899906842624)) ∧ r.1.isSealed = (s.isSealed || decide (o.code = 10)) := by
        rintro r ⟨l, n, rfl, hr⟩
        exact ⟨hr hm.1, rfl, fun e => absurd e hs, by simp [setL, hc]⟩
      rcases hm.2 with ⟨hk, hl⟩ | ⟨hk, hl⟩ | ⟨hk, hl⟩ | ⟨hk, hl⟩
      · rw [if_pos hk]
        obtain ⟨l, n, e, h1⟩ := number_may (o := o) hl
        exact key ⟨l, n, e, fun ht => mayB_iff.2 ⟨ht, .inl ⟨hk, h1⟩⟩⟩
      · rw [if_neg (by omega), if_pos hk]
        obtain ⟨l, n, e, h1⟩ := line_may (o := o) hl
        exact key ⟨l, n, e, fun ht => mayB_iff.2 ⟨ht, .inr (.inl ⟨hk, h1⟩)⟩⟩
      · rw [if_neg (by omega), if_neg (by omega), if_pos hk]
        obtain ⟨l, n, e, h1⟩ := store_may (o := o) hl
        exact key ⟨l, n, e, fun ht => mayB_iff.2 ⟨ht, .inr (.inr (.inl ⟨hk, h1⟩))⟩⟩
      · rw [if_neg (by omega), if_neg (by omega), if_neg (by omega)]
        obtain ⟨l, n, e, h1⟩ := ledger_may (o := o) hl
        exact key ⟨l, n, e, fun ht => mayB_iff.2 ⟨ht, .inr (.inr (.inr ⟨hk, h1⟩))⟩⟩

/-! ### The sum of a ledger -/
end Go.Proofs.Ytjfenjnnpikkdaa
/- A state keeps its bound. -/
namespace Go.Proofs.Ytjfenjnnpikkdaa
set_option maxRecDepth 100000
theorem may_len {s : St} (h : mayB s = true) : s.L.length ≤ 128 := by
  rcases (mayB_iff.1 h).2 with ⟨_, h, _⟩ | ⟨_, h, _⟩ | ⟨_, h⟩ | ⟨_, h⟩
  · omega
  · omega
  · exact (pairsB_iff.1 h).2.2
  · exact (pairsB_iff.1 h).2.2
theorem step_len {s : St} (o : Op3) (h : s.L.length ≤ 300) : (stepS s o).1.L.length ≤ 300 := by
  cases hm : mayB s
  · unfold stepS; rw [if_pos hm]; exact h
  · have := may_len (step_stays o hm).1; omega
end Go.Proofs.Ytjfenjnnpikkdaa
/- Layer 4: awake, Few, Ints. -/
namespace Go.Proofs.Ytjfenjnnpikkdaa
set_option maxRecDepth 100000
open Go.RowKit

theorem few04 {w : World} {vl : Value} (s : St) (hx : Rd w vl s.L) :
    Calls Try.prog 36 #[.agg #[.int .i64 s.kind, vl, .bool s.isSealed, .int .i64 s.to]] w (Tells w (decide (s.L.length ≤ 300))) := by
  obtain ⟨a, c, rfl, _⟩ := hx
  obtain ⟨k, L, b, t⟩ := s
  have hB : Below w.heap.size w (w.alloc (.cells #[.int .i64 k, .slice a L.length c, .bool b, .int .i64 t] 24)) := (Below.refl _ w).alloc (Nat.le_refl _) _
  have e : decide (L.length ≤ 300) = decide ((L.length : Int) ≤ 300) := by
    by_cases h : L.length ≤ 300
    · rw [decide_eq_true h, decide_eq_true (by omega)]
    · rw [decide_eq_false h, decide_eq_false (by omega)]
  simp only
  rw [e]
  have H := Lib.hid hB
  clear e hB
  go_enter Try.func36, Try.ntmps36
  go_wp2_with fail
  go_ret
  exact ⟨rfl, H.out⟩

theorem rd_lit (w : World) (l : List Int) (n : Nat) (hn : n = l.length) (hm : l.length ≤ 4) : Rd (w.alloc (.cells (ints l).toArray 3)) (.slice (some ⟨w.heap.size, 0, none⟩) n n) l := by
  subst hn
  have h := own_lit w 3 (ints l) (by simp only [ints_length, maxLen]; omega)
  rw [ints_length] at h
  exact own_rd h

end Go.Proofs.Ytjfenjnnpikkdaa
/- What comes in: slices of ints. -/
namespace Go.Proofs.Ytjfenjnnpikkdaa
set_option maxRecDepth 100000
open Go.RowKit

/-- WHAT THE WALK IS TOLD OF A SLICE OF INTEGERS THAT CAME IN. -/
def IsRow (k : IntKind) (w : World) (a : Option Addr) (len cap : Nat) (zs : List Int) : Prop :=
  (a = none ∧ len = 0 ∧ cap = 0 ∧ zs = []) ∨
  ∃ x, a = some x ∧ len ≤ cap ∧ cap ≤ maxLen ∧ zs.length = cap ∧ (∀ i, i < zs.length → w.cell? (x.add i) = some (.int k (zs.getD i 0))) ∧ ∀ n ∈ zs, (Lit.int k n).wf = true

theorem IsRow.le {k : IntKind} {w : World} {a : Option Addr} {len cap : Nat} {zs : List Int} (h : IsRow k w a len cap zs) : len ≤ zs.length ∧ zs.length = cap ∧ cap ≤ 9223372036854775807 := by
  rcases h with ⟨_, rfl, rfl, rfl⟩ | ⟨x, _, h1, h2, h3, _⟩
  · simp
  · simp only [maxLen] at h2; omega
theorem IsRow.cell {k : IntKind} {w : World} {a : Option Addr} {len cap : Nat} {zs : List Int} (h : IsRow k w a len cap zs) {i : Nat} (hi : i < len) : ∃ b o, a = some ⟨b, o, none⟩ ∧ w.cell? ⟨b, o + i, none⟩ = some (.int k (zs.getD i 0)) ∧ b < w.heap.size := by
  rcases h with ⟨_, rfl, rfl, rfl⟩ | ⟨x, rfl, h1, h2, h3, h4, _⟩
  · omega
  · have hc := h4 i (by omega)
    have hs := World.cell?_spot (h4 0 (by omega))
    obtain ⟨b, o, spot⟩ := x
    have : spot = none := by simpa [Addr.add] using hs
    subst this
    have hadd : (⟨b, o, none⟩ : Addr).add i = ⟨b, o + i, none⟩ := by unfold Addr.add; split <;> simp_all
    rw [hadd] at hc
    exact ⟨b, o, rfl, hc, World.block_lt_of_cell? _ _ hc⟩
theorem IsRow.one {k : IntKind} {w : World} {a : Option Addr} {len cap : Nat} {zs : List Int} (h : IsRow k w a len cap zs) (hl : 0 < len) : ∃ b o, a = some ⟨b, o, none⟩ ∧ b < w.heap.size ∧ ∀ i, i < len → w.cell? ⟨b, o + i, none⟩ = some (.int k (zs.getD i 0)) := by
  obtain ⟨b, o, rfl, _, hb⟩ := h.cell hl
  refine ⟨b, o, rfl, hb, fun i hi => ?_⟩
  obtain ⟨b', o', e, hc, _⟩ := h.cell hi
  simp at e
  obtain ⟨rfl, rfl⟩ := e
  exact hc

theorem IsRow.rd {w : World} {a : Option Addr} {len cap : Nat} {zs : List Int} (h : IsRow .i64 w a len cap zs) : Rd w (.slice a len cap) (zs.take len) := by
  obtain ⟨h1, h2, h3⟩ := h.le
  have e : (zs.take len).length = len := by simp; omega
  refine ⟨a, cap, by rw [e], by omega, h3, fun hl => ?_⟩
  obtain ⟨b, o, rfl, hb, hc⟩ := h.one (by omega)
  refine ⟨b, o, rfl, hb, fun i hi => ?_⟩
  rw [hc i (by omega)]
  simp [List.getD_eq_getElem?_getD, List.getElem?_take, show i < len by omega]
end Go.Proofs.Ytjfenjnnpikkdaa
/- Arguments that are slices of structs, opened to their cells. -/
namespace Go.Proofs.Ytjfenjnnpikkdaa
set_option maxRecDepth 100000
open Go.RowKit Go.ChangeShapes Go.WideShapes Go.Deep

/-- What a walk is told of a slice of structs of m ints. -/
def IsOps (w : World) (a : Option Addr) (len : Nat) (f : Nat → Nat → Int) (m : Nat) : Prop :=
  0 < len → ∃ b o, a = some ⟨b, o, none⟩ ∧ b < w.heap.size ∧ ∀ i j, i < len → j < m → w.cell? ⟨b, o + i * m + j, none⟩ = some (.int .i64 (f i j))

section
variable {H : Type} {enc : TypeId × Value → H} {P : Program} {w : World} {base : Nat} {spare : Nat → Bool} {held : Bool}
theorem addr_plain {b o i : Nat} : (⟨b, o, none⟩ : Addr).add i = ⟨b, o + i, none⟩ := by unfold Addr.add; split <;> simp_all

end
end Go.Proofs.Ytjfenjnnpikkdaa
/- Arguments that are states or operations, opened. -/
namespace Go.Proofs.Ytjfenjnnpikkdaa
set_option maxRecDepth 100000
open Go.ChangeShapes Go.WideShapes Go.ChangeAt Go.RowKit Go.Deep

section
variable {H : Type} {enc : TypeId × Value → H}

theorem open_ints_row {W : World} {fuel : Nat} {c : Value} {x : DataW H × List MemPlace} (h : DataW.trod enc Try.prog W 0 (fun _ => true) true fuel 22 [c] = some x) :
    ∃ a len cap zs, c = .slice a len cap ∧ IsRow .i64 W a len cap zs := by
  rcases open_ints Try.underlying22 Try.underlying3 (by kernel_rfl) h with ⟨hcs, _⟩ | ⟨x, l, c, zs, hcs, _, hl, hm, hz, _, hcell, hwz⟩
  · simp at hcs
    exact ⟨_, _, _, [], hcs, .inl ⟨rfl, rfl, rfl, rfl⟩⟩
  · simp at hcs
    exact ⟨_, _, _, zs, hcs, .inr ⟨_, rfl, hl, hm, by simpa using hz, hcell, hwz⟩⟩

theorem Try.cells_state : Try.prog.cellsOf 24 = 4 := by kernel_rfl
theorem Try.cells_op : Try.prog.cellsOf 37 = 3 := by kernel_rfl
theorem Try.cells_int : Try.prog.cellsOf 3 = 1 := by kernel_rfl
theorem Try.cells_bool : Try.prog.cellsOf 4 = 1 := by kernel_rfl
theorem Try.cells_ints : Try.prog.cellsOf 22 = 1 := by kernel_rfl

theorem open_state {W : World} {v : Value} {d : DataW H} {ps : List MemPlace} (hok : Value.okWide Try.prog W .any 0 24 v) (hT : DataW.Trod enc Try.prog W 0 (fun _ => true) true 24 v d ps) :
    ∃ (s : St) (vl : Value), v = .agg #[.int .i64 s.kind, vl, .bool s.isSealed, .int .i64 s.to] ∧ Rd W vl s.L := by
  obtain ⟨fuel, hv⟩ := hT
  obtain ⟨y0, y1, y2, y3, m', hx', hl, u0, u1, u2, u3⟩ := Go.Joins.trod_struct4 Try.underlying24 hv
  rw [Try.cells_state] at hl
  obtain ⟨c0, c1, c2, c3, hc⟩ : ∃ c0 c1 c2 c3, v.cells.toList = [c0, c1, c2, c3] := by
    match hcs : v.cells.toList, hl with
    | [a, b, c, d], _ => exact ⟨a, b, c, d, rfl⟩
  rw [hc] at u0 u1 u2 u3
  simp only [Try.cells_int, Try.cells_bool, Try.cells_ints, List.drop, List.take] at u0 u1 u2 u3
  obtain ⟨k, e0, _, _⟩ := DataW.trod_int Try.underlying3 u0
  obtain ⟨a, len, cap, zs, rfl, hrow⟩ := open_ints_row u1
  obtain ⟨b, e2, _⟩ := DataW.trod_bool Try.underlying4 u2
  obtain ⟨t, e3, _, _⟩ := DataW.trod_int Try.underlying3 u3
  simp only [List.cons.injEq, and_true] at e0 e2 e3
  subst e0 e2 e3
  refine ⟨⟨k, zs.take len, b, t⟩, .slice a len cap, ?_, hrow.rd⟩
  cases v <;> simp [Value.cells, Value.okWide, Try.underlying24] at hc hok ⊢
  rename_i cs
  obtain ⟨l⟩ := cs
  simpa using hc

end
end Go.Proofs.Ytjfenjnnpikkdaa
