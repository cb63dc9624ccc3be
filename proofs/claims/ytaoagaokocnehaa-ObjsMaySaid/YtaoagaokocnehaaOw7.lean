/-
  Package objs: the walk of move.
-/
import Derived.Test.YtaoagaokocnehaaOw6a
import Derived.Test.YtaoagaokocnehaaOp
namespace Go.Proofs.Ytaoagaokocnehaa
set_option linter.unusedVariables false
set_option linter.unusedSimpArgs false
open Go.RowKit

theorem pairs_has (least : Int) (hle : least ≤ 0) : ∀ (l : List Int) (last : Int), pairsGo least last l = true → ∀ key, (least ≤ hasI l key ∧ hasI l key ≤ 1099511627776) ∨ hasI l key = -1
  | k :: v :: r, last, h, key => by
    rw [pairsGo] at h
    split at h
    · simp at h
    · have ih := pairs_has least hle r k h key
      rw [hasI_cons]
      split
      · exact ih
      · split <;> omega
  | [k], last, h, key => by rw [hasI_one]; split <;> (try split) <;> omega
  | [], last, h, key => by rw [hasI_nil]; omega
theorem may_ledger {s : St} (hk : s.kind = 5) (hm : mayB s = true) (key : Int) : -1 ≤ hasI s.L key ∧ hasI s.L key ≤ 1099511627776 := by
  unfold mayB at hm
  split at hm
  · simp at hm
  · simp only [hk] at hm
    simp [pairsB] at hm
    have := pairs_has 0 (by omega) s.L (-1) hm.1 key
    omega

theorem quiet_at {P : Program} {f : FuncId} {args : Array Value} {w : World} {n x : Nat} {v : Value}
    (h : Calls P f args (w.drewN (n + x)) fun e w' => e = .returned v ∧ ∃ q, w' = (w.drewN (n + x)).drewN q) : Calls P f args (w.drewN (n + x)) fun e w'' => e = .returned v ∧ ∃ m, w'' = w.drewN (n + m) :=
  h.mono fun _ _ ⟨he, m, hm⟩ => ⟨he, x + m, by rw [hm, World.drewN_drewN, Nat.add_assoc]⟩

set_option maxRecDepth 100000 in
set_option maxHeartbeats 6400000 in
theorem o_move_no {w : World} {n c : Nat} {a : Option Addr} {L : List Int} {b : Bool} {t oa ob : Int} (h : oa < 0 ∨ 65536 ≤ oa ∨ ob < 0) (HX : Hid (Rd w (.slice a n c) L)) :
    Calls Try.prog 47 #[.agg #[.int .i64 5, .slice a n c, .bool b, .int .i64 t], .agg #[.int .i64 9, .int .i64 oa, .int .i64 ob]] w (StepP w (.slice a n c) ((⟨5, L, b, t⟩ : St), 0)) := by
  have h2 : oa < 0 ∨ (¬ oa < 0 ∧ 65536 ≤ oa) ∨ (¬ oa < 0 ∧ ¬ 65536 ≤ oa ∧ ob < 0) := by omega
  clear h
  rcases h2 with h | ⟨h1, h2⟩ | ⟨h1, h2, h3⟩
  all_goals
    go_enter Try.func47, Try.ntmps47
    go_wp2_with fail
    refine bodyPost_ret (v := .tuple #[.agg #[.int .i64 5, .slice a n c, .bool b, .int .i64 t], .int .i64 0]) ?_ rfl ?_
    · simp [results, Try.results47, go_sem]
    · exact stepp_same HX.out (below3 w _ _ _)

set_option maxRecDepth 100000 in
set_option maxHeartbeats 6400000 in
theorem o_move_less {w : World} {n c : Nat} {a : Option Addr} {L : List Int} {b : Bool} {t oa ob f g hf hg : Int} (n1 : 0 ≤ oa) (n2 : oa < 65536) (n3 : 0 ≤ ob) (ef : oa / 256 = f) (eg : oa % 256 = g) (HX : Hid (Rd w (.slice a n c) L))
    (HA : ∀ W, Below w.heap.size w W → Hid (Calls Try.prog 44 #[.slice a n c, .int .i64 f] W fun e w' => e = .returned (.int .i64 hf) ∧ ∃ q, w' = W.drewN q))
    (HB : ∀ W, Below w.heap.size w W → Hid (Calls Try.prog 44 #[.slice a n c, .int .i64 g] W fun e w' => e = .returned (.int .i64 hg) ∧ ∃ q, w' = W.drewN q))
    (hl : hf < ob) :
    Calls Try.prog 47 #[.agg #[.int .i64 5, .slice a n c, .bool b, .int .i64 t], .agg #[.int .i64 9, .int .i64 oa, .int .i64 ob]] w (StepP w (.slice a n c) ((⟨5, L, b, t⟩ : St), 0)) := by
  have m1 : ¬ oa < 0 := by omega
  have m2 : ¬ 65536 ≤ oa := by omega
  have m3 : ¬ ob < 0 := by omega
  go_enter Try.func47, Try.ntmps47
  go_wp2_with fail
  go_quiet (fail)
  go_wp2_with fail
  go_quiet (first | (go_at_call 44; first | with_reducible exact quiet_at (HA _ (below3d w _ _ _ _)).out | with_reducible exact quiet_at (HB _ (below3d w _ _ _ _)).out))
  go_wp2_with fail
  refine bodyPost_ret (v := .tuple #[.agg #[.int .i64 5, .slice a n c, .bool b, .int .i64 t], .int .i64 0]) ?_ rfl ?_
  · simp [results, Try.results47, go_sem]
  · exact stepp_same HX.out (below_res (below3d w _ _ _ _) _ (by omega) _ _ _ _)

set_option maxRecDepth 100000 in
set_option maxHeartbeats 6400000 in
theorem o_move_same {w : World} {n c : Nat} {a : Option Addr} {L : List Int} {b : Bool} {t oa ob f g hf hg : Int} (n1 : 0 ≤ oa) (n2 : oa < 65536) (n3 : 0 ≤ ob) (ef : oa / 256 = f) (eg : oa % 256 = g) (HX : Hid (Rd w (.slice a n c) L))
    (HA : ∀ W, Below w.heap.size w W → Hid (Calls Try.prog 44 #[.slice a n c, .int .i64 f] W fun e w' => e = .returned (.int .i64 hf) ∧ ∃ q, w' = W.drewN q))
    (HB : ∀ W, Below w.heap.size w W → Hid (Calls Try.prog 44 #[.slice a n c, .int .i64 g] W fun e w' => e = .returned (.int .i64 hg) ∧ ∃ q, w' = W.drewN q))
    (hl : ¬ hf < ob) (hfg : (f == g) = true) :
    Calls Try.prog 47 #[.agg #[.int .i64 5, .slice a n c, .bool b, .int .i64 t], .agg #[.int .i64 9, .int .i64 oa, .int .i64 ob]] w (StepP w (.slice a n c) ((⟨5, L, b, t⟩ : St), 1)) := by
  have m1 : ¬ oa < 0 := by omega
  have m2 : ¬ 65536 ≤ oa := by omega
  have m3 : ¬ ob < 0 := by omega
  go_enter Try.func47, Try.ntmps47
  go_wp2_with fail
  go_quiet (fail)
  go_wp2_with fail
  go_quiet (first | (go_at_call 44; first | with_reducible exact quiet_at (HA _ (below3d w _ _ _ _)).out | with_reducible exact quiet_at (HB _ (below3d w _ _ _ _)).out))
  go_wp2_with fail
  refine bodyPost_ret (v := .tuple #[.agg #[.int .i64 5, .slice a n c, .bool b, .int .i64 t], .int .i64 1]) ?_ rfl ?_
  · simp [results, Try.results47, go_sem]
  · exact stepp_same HX.out (below_res (below3d w _ _ _ _) _ (by omega) _ _ _ _)

set_option maxRecDepth 100000 in
set_option maxHeartbeats 6400000 in
theorem o_move_full {w : World} {n c : Nat} {a : Option Addr} {L L1 : List Int} {b : Bool} {t oa ob f g hf hg : Int} (n1 : 0 ≤ oa) (n2 : oa < 65536) (n3 : 0 ≤ ob) (ef : oa / 256 = f) (eg : oa % 256 = g) (HX : Hid (Rd w (.slice a n c) L))
    (HA : ∀ W, Below w.heap.size w W → Hid (Calls Try.prog 44 #[.slice a n c, .int .i64 f] W fun e w' => e = .returned (.int .i64 hf) ∧ ∃ q, w' = W.drewN q))
    (HB : ∀ W, Below w.heap.size w W → Hid (Calls Try.prog 44 #[.slice a n c, .int .i64 g] W fun e w' => e = .returned (.int .i64 hg) ∧ ∃ q, w' = W.drewN q))
    (hl : ¬ hf < ob) (hfg : (f == g) = false) (hr : -1 ≤ hg) (hr1 : hg ≤ 1099511627776) (hr2 : hf ≤ 1099511627776) (y : Int) (hy : (0 ≤ hg ∧ hg + ob = y) ∨ (¬ 0 ≤ hg ∧ ob = y)) (ok : Bool) (hok : ok = false ∨ (ok = true ∧ 1099511627776 < y))
    (HP : ∀ W, Below w.heap.size w W → Hid (Calls Try.prog 46 #[.slice a n c, .int .i64 g, .int .i64 y] W (PutP W L1 ok))) :
    Calls Try.prog 47 #[.agg #[.int .i64 5, .slice a n c, .bool b, .int .i64 t], .agg #[.int .i64 9, .int .i64 oa, .int .i64 ob]] w (StepP w (.slice a n c) ((⟨5, L, b, t⟩ : St), 0)) := by
  have m1 : ¬ oa < 0 := by omega
  have m2 : ¬ 65536 ≤ oa := by omega
  have m3 : ¬ ob < 0 := by omega
  rcases hy with ⟨h0, hy⟩ | ⟨h0, rfl⟩ <;> rcases hok with rfl | ⟨rfl, hok⟩ <;> try (exfalso; omega)
  all_goals
    go_enter Try.func47, Try.ntmps47
    go_wp2_with fail
    go_quiet (fail)
    go_wp2_with fail
    go_quiet (first | (go_at_call 44; first | with_reducible exact quiet_at (HA _ (below3d w _ _ _ _)).out | with_reducible exact quiet_at (HB _ (below3d w _ _ _ _)).out))
    go_wp2_with fail
    refine (HP _ (below3d w _ _ _ _)).out.mono ?_
    rintro e w4 ⟨v4, rfl, hrd, how, hb4'⟩
    obtain ⟨a4, c4, rfl, _⟩ := id hrd
    have HB' := Lib.hid hb4'
    clear hb4' hrd how
    obtain ⟨b0, b1, b2, hz4, hb4⟩ := box_facts (k := 5) (t := t) (co := 9) (oa := oa) (ob := ob) (vl := .slice a n c) (b := b) (below_undrew (HB'.out.mono (by simp : w.heap.size + 1 + 1 + 1 ≤ _)))
    have hk0 : w4.cell? ⟨w.heap.size, 0, none⟩ = some (.int .i64 5) := by rw [b0.cell]; rfl
    have hk1 : w4.cell? ⟨w.heap.size, 1, none⟩ = some (.slice a n c) := by rw [b0.cell]; rfl
    have hk2 : w4.cell? ⟨w.heap.size, 2, none⟩ = some (.bool b) := by rw [b0.cell]; rfl
    have hk3 : w4.cell? ⟨w.heap.size, 3, none⟩ = some (.int .i64 t) := by rw [b0.cell]; rfl
    have ho0 : w4.cell? ⟨w.heap.size + 1, 0, none⟩ = some (.int .i64 9) := by rw [b1.cell]; rfl
    have ho1 : w4.cell? ⟨w.heap.size + 1, 1, none⟩ = some (.int .i64 oa) := by rw [b1.cell]; rfl
    have ho2 : w4.cell? ⟨w.heap.size + 1, 2, none⟩ = some (.int .i64 ob) := by rw [b1.cell]; rfl
    have hr0 : w4.cell? ⟨w.heap.size + 1 + 1, 0, none⟩ = some (.int .i64 0) := by rw [b2.cell]; rfl
    have hr1 : w4.cell? ⟨w.heap.size + 1 + 1, 1, none⟩ = some (.slice none 0 0) := by rw [b2.cell]; rfl
    have hr2 : w4.cell? ⟨w.heap.size + 1 + 1, 2, none⟩ = some (.bool false) := by rw [b2.cell]; rfl
    have hr3 : w4.cell? ⟨w.heap.size + 1 + 1, 3, none⟩ = some (.int .i64 0) := by rw [b2.cell]; rfl
    have hfz0 := b0.frozen 1
    have hfr0 := b2.frozen 0
    have hfr1 := b2.frozen 1
    have hfr2 := b2.frozen 2
    have hfr3 := b2.frozen 3
    have B2 := Lib.hid b2
    have HB4 := Lib.hid hb4
    clear b0 b1 b2 hb4 HB'
    go_wp2_with fail
    refine bodyPost_ret (v := .tuple #[.agg #[.int .i64 5, .slice a n c, .bool b, .int .i64 t], .int .i64 0]) ?_ rfl ?_
    · simp [results, Try.results47, go_sem, hr0, hr1, hr2, hr3]
    · exact stepp_same HX.out (below_res HB4.out _ (by omega) _ _ _ _)

set_option maxRecDepth 100000 in
set_option maxHeartbeats 6400000 in
theorem o_move_yes {w : World} {n c : Nat} {a : Option Addr} {L L1 L2 : List Int} {b : Bool} {t oa ob f g hf hg : Int} (n1 : 0 ≤ oa) (n2 : oa < 65536) (n3 : 0 ≤ ob) (ef : oa / 256 = f) (eg : oa % 256 = g) (HX : Hid (Rd w (.slice a n c) L))
    (HA : ∀ W, Below w.heap.size w W → Hid (Calls Try.prog 44 #[.slice a n c, .int .i64 f] W fun e w' => e = .returned (.int .i64 hf) ∧ ∃ q, w' = W.drewN q))
    (HB : ∀ W, Below w.heap.size w W → Hid (Calls Try.prog 44 #[.slice a n c, .int .i64 g] W fun e w' => e = .returned (.int .i64 hg) ∧ ∃ q, w' = W.drewN q))
    (hl : ¬ hf < ob) (hfg : (f == g) = false) (hr : -1 ≤ hg) (hr1 : hg ≤ 1099511627776) (hr2 : hf ≤ 1099511627776) (y : Int) (hy : (0 ≤ hg ∧ hg + ob = y) ∨ (¬ 0 ≤ hg ∧ ob = y)) (hok : ¬ 1099511627776 < y)
    (HP : ∀ W, Below w.heap.size w W → Hid (Calls Try.prog 46 #[.slice a n c, .int .i64 g, .int .i64 y] W (PutP W L1 true)))
    (HP2 : ∀ W v', Rd W v' L1 → Hid (Calls Try.prog 46 #[v', .int .i64 f, .int .i64 (hf - ob)] W (PutP W L2 true))) :
    Calls Try.prog 47 #[.agg #[.int .i64 5, .slice a n c, .bool b, .int .i64 t], .agg #[.int .i64 9, .int .i64 oa, .int .i64 ob]] w (StepP w (.slice a n c) ((⟨5, L2, b, t⟩ : St), 1)) := by
  have m1 : ¬ oa < 0 := by omega
  have m2 : ¬ 65536 ≤ oa := by omega
  have m3 : ¬ ob < 0 := by omega
  rcases hy with ⟨h0, hy⟩ | ⟨h0, rfl⟩
  all_goals
    go_enter Try.func47, Try.ntmps47
    go_wp2_with fail
    go_quiet (fail)
    go_wp2_with fail
    go_quiet (first | (go_at_call 44; first | with_reducible exact quiet_at (HA _ (below3d w _ _ _ _)).out | with_reducible exact quiet_at (HB _ (below3d w _ _ _ _)).out))
    go_wp2_with fail
    refine (HP _ (below3d w _ _ _ _)).out.mono ?_
    rintro e w4 ⟨v4, rfl, hrd, how, hb4'⟩
    obtain ⟨a4, c4, rfl, _⟩ := id hrd
    have HB' := Lib.hid hb4'
    have HR' := Lib.hid hrd
    clear hb4' hrd how
    obtain ⟨b0, b1, b2, hz4, hb4⟩ := box_facts (k := 5) (t := t) (co := 9) (oa := oa) (ob := ob) (vl := .slice a n c) (b := b) (below_undrew (HB'.out.mono (by simp : w.heap.size + 1 + 1 + 1 ≤ _)))
    have hk0 : w4.cell? ⟨w.heap.size, 0, none⟩ = some (.int .i64 5) := by rw [b0.cell]; rfl
    have hk1 : w4.cell? ⟨w.heap.size, 1, none⟩ = some (.slice a n c) := by rw [b0.cell]; rfl
    have hk2 : w4.cell? ⟨w.heap.size, 2, none⟩ = some (.bool b) := by rw [b0.cell]; rfl
    have hk3 : w4.cell? ⟨w.heap.size, 3, none⟩ = some (.int .i64 t) := by rw [b0.cell]; rfl
    have ho0 : w4.cell? ⟨w.heap.size + 1, 0, none⟩ = some (.int .i64 9) := by rw [b1.cell]; rfl
    have ho1 : w4.cell? ⟨w.heap.size + 1, 1, none⟩ = some (.int .i64 oa) := by rw [b1.cell]; rfl
    have ho2 : w4.cell? ⟨w.heap.size + 1, 2, none⟩ = some (.int .i64 ob) := by rw [b1.cell]; rfl
    have hr0 : w4.cell? ⟨w.heap.size + 1 + 1, 0, none⟩ = some (.int .i64 0) := by rw [b2.cell]; rfl
    have hr1 : w4.cell? ⟨w.heap.size + 1 + 1, 1, none⟩ = some (.slice none 0 0) := by rw [b2.cell]; rfl
    have hr2 : w4.cell? ⟨w.heap.size + 1 + 1, 2, none⟩ = some (.bool false) := by rw [b2.cell]; rfl
    have hr3 : w4.cell? ⟨w.heap.size + 1 + 1, 3, none⟩ = some (.int .i64 0) := by rw [b2.cell]; rfl
    have hfz0 := b0.frozen 1
    have hfr0 := b2.frozen 0
    have hfr1 := b2.frozen 1
    have hfr2 := b2.frozen 2
    have hfr3 := b2.frozen 3
    have B0 := Lib.hid b0
    have B1 := Lib.hid b1
    have B2 := Lib.hid b2
    have HB4 := Lib.hid hb4
    have hz4' := Lib.hid hz4
    clear b0 b1 b2 hb4 HB'
    go_wp2_with fail
    refine (HP2 _ _ HR'.out).out.mono ?_
    rintro e w5 ⟨v5, rfl, hrd, how, hb5'⟩
    obtain ⟨a5, c5, rfl, _⟩ := id hrd
    have HO5 := Lib.hid (how rfl).1
    have HF5 := Lib.hid ((how rfl).2.mono HB4.out.size)
    have HB5 := Lib.hid (HB4.out.trans (hb5'.mono HB4.out.size))
    have HC0 := Lib.hid (B0.out.below hb5' B0.out.lt)
    have HC1 := Lib.hid (B1.out.below hb5' B1.out.lt)
    have HC2 := Lib.hid (B2.out.below hb5' B2.out.lt)
    have hz5 : w.heap.size + 1 + 1 + 1 ≤ w5.heap.size := Nat.le_trans hz4'.out hb5'.size
    clear hrd how hb5' B0 B1 B2 HB4 HR' hz4 hz4' hk0 hk1 hk2 hk3 ho0 ho1 ho2 hr0 hr1 hr2 hr3 hfz0 hfr0 hfr1 hfr2 hfr3
    have b0 := HC0.out
    have b1 := HC1.out
    have b2 := HC2.out
    have hk0 : w5.cell? ⟨w.heap.size, 0, none⟩ = some (.int .i64 5) := by rw [b0.cell]; rfl
    have hk1 : w5.cell? ⟨w.heap.size, 1, none⟩ = some (.slice a n c) := by rw [b0.cell]; rfl
    have hk2 : w5.cell? ⟨w.heap.size, 2, none⟩ = some (.bool b) := by rw [b0.cell]; rfl
    have hk3 : w5.cell? ⟨w.heap.size, 3, none⟩ = some (.int .i64 t) := by rw [b0.cell]; rfl
    have ho0 : w5.cell? ⟨w.heap.size + 1, 0, none⟩ = some (.int .i64 9) := by rw [b1.cell]; rfl
    have ho1 : w5.cell? ⟨w.heap.size + 1, 1, none⟩ = some (.int .i64 oa) := by rw [b1.cell]; rfl
    have ho2 : w5.cell? ⟨w.heap.size + 1, 2, none⟩ = some (.int .i64 ob) := by rw [b1.cell]; rfl
    have hr0 : w5.cell? ⟨w.heap.size + 1 + 1, 0, none⟩ = some (.int .i64 0) := by rw [b2.cell]; rfl
    have hr1 : w5.cell? ⟨w.heap.size + 1 + 1, 1, none⟩ = some (.slice none 0 0) := by rw [b2.cell]; rfl
    have hr2 : w5.cell? ⟨w.heap.size + 1 + 1, 2, none⟩ = some (.bool false) := by rw [b2.cell]; rfl
    have hr3 : w5.cell? ⟨w.heap.size + 1 + 1, 3, none⟩ = some (.int .i64 0) := by rw [b2.cell]; rfl
    have hfz0 := b0.frozen 1
    have hfr0 := b2.frozen 0
    have hfr1 := b2.frozen 1
    have hfr2 := b2.frozen 2
    have hfr3 := b2.frozen 3
    clear b0 b1 b2
    go_wp2_with fail
    refine bodyPost_ret (v := .tuple #[.agg #[.int .i64 5, .slice a5 L2.length c5, .bool b, .int .i64 t], .int .i64 1]) ?_ rfl ?_
    · simp [results, Try.results47, go_sem, hr0, hr1, hr2, hr3]
    · exact stepp_own HC0.out HC2.out (sets_keeps _ _ _ _ _ _ _ _) HB5.out (Nat.le_refl _) (by omega) HO5.out HF5.out _ _ _ _

theorem o_move {w : World} {vl : Value} (s : St) (o : Op3) (hx : Rd w vl s.L) (hk : s.kind = 5) (hc : o.code = 9) (hm : mayB s = true) :
    Calls Try.prog 47 #[.agg #[.int .i64 s.kind, vl, .bool s.isSealed, .int .i64 s.to], .agg #[.int .i64 o.code, .int .i64 o.a, .int .i64 o.b]] w (StepP w vl (moveS s o)) := by
  obtain ⟨hev, h128⟩ := may_pairs (.inr hk) hm
  have hbd := may_ledger hk hm
  obtain ⟨k, L, b, t⟩ := s
  obtain ⟨co, oa, ob⟩ := o
  simp only at hx hk hc hev h128 hm hbd ⊢
  subst hk
  subst hc
  have HX := Lib.hid hx
  obtain ⟨a, c, rfl, _⟩ := id hx
  have HH := fun (key : Int) W (hB : Below w.heap.size w W) => Lib.hid (o_has (w := W) (HX.out.below hB (Nat.le_refl _)) (by omega) hev key)
  by_cases h0 : oa < 0 ∨ 65536 ≤ oa ∨ ob < 0
  · have hr : moveS ⟨5, L, b, t⟩ ⟨9, oa, ob⟩ = ((⟨5, L, b, t⟩ : St), 0) := by simp [moveS, h0]
    rw [hr]
    exact o_move_no h0 HX
  have n1 : 0 ≤ oa := by omega
  have n2 : oa < 65536 := by omega
  have n3 : 0 ≤ ob := by omega
  by_cases h1 : hasI L (oa / 256) < ob
  · have hr : moveS ⟨5, L, b, t⟩ ⟨9, oa, ob⟩ = ((⟨5, L, b, t⟩ : St), 0) := by simp [moveS, h0, h1]
    rw [hr]
    exact o_move_less n1 n2 n3 rfl rfl HX (HH _) (HH _) h1
  by_cases h2 : oa / 256 = oa % 256
  · have hr : moveS ⟨5, L, b, t⟩ ⟨9, oa, ob⟩ = ((⟨5, L, b, t⟩ : St), 1) := by unfold moveS; simp only; rw [if_neg h0, if_neg h1, if_pos h2]
    rw [hr]
    exact o_move_same n1 n2 n3 rfl rfl HX (HH _) (HH _) h1 (by simp [h2])
  have h2' : (oa / 256 == oa % 256) = false := by simpa using h2
  have hP := fun W (hB : Below w.heap.size w W) => Lib.hid (o_put (w := W) (HX.out.below hB (Nat.le_refl _)) (by omega) hev (oa % 256) (max (hasI L (oa % 256)) 0 + ob))
  have hy : (0 ≤ hasI L (oa % 256) ∧ hasI L (oa % 256) + ob = max (hasI L (oa % 256)) 0 + ob) ∨ (¬ 0 ≤ hasI L (oa % 256) ∧ ob = max (hasI L (oa % 256)) 0 + ob) := by omega
  by_cases h3 : putB L (oa % 256) = false ∨ 1099511627776 < max (hasI L (oa % 256)) 0 + ob
  · have hr : moveS ⟨5, L, b, t⟩ ⟨9, oa, ob⟩ = ((⟨5, L, b, t⟩ : St), 0) := by unfold moveS; simp only; rw [if_neg h0, if_neg h1, if_neg h2, if_pos h3]
    rw [hr]
    exact o_move_full n1 n2 n3 rfl rfl HX (HH _) (HH _) h1 h2' (hbd _).1 (hbd _).2 (hbd _).2 _ hy _ (by cases hb : putB L (oa % 256) <;> simp [hb] at h3 ⊢; exact h3) hP
  · have hr : moveS ⟨5, L, b, t⟩ ⟨9, oa, ob⟩ = ((⟨5, putL (putL L (oa % 256) (max (hasI L (oa % 256)) 0 + ob)) (oa / 256) (hasI L (oa / 256) - ob), b, t⟩ : St), 1) := by unfold moveS; simp only; rw [if_neg h0, if_neg h1, if_neg h2, if_neg h3]
    rw [hr]
    have hb : putB L (oa % 256) = true := by simp only [not_or] at h3; simpa using h3.1
    rw [hb] at hP
    have hfd : foundB L (oa / 256) = true := by
      cases hq : foundB L (oa / 256)
      · have := has_unfound hq; omega
      · rfl
    have e1 := putL_eq (n := max (hasI L (oa % 256)) 0 + ob) hev hb
    have hev2 : (putL L (oa % 256) (max (hasI L (oa % 256)) 0 + ob)).length % 2 = 0 := by rw [e1]; exact putR_even hev
    have hfd2 : foundB (putL L (oa % 256) (max (hasI L (oa % 256)) 0 + ob)) (oa / 256) = true := by rw [e1, found_putR _ _ _ _ hev, hfd, Bool.or_true]
    have hlen2 : (putL L (oa % 256) (max (hasI L (oa % 256)) 0 + ob)).length ≤ 1099511627776 := by rw [e1, putR_length _ _ _ hev]; split <;> omega
    have hb2 : putB (putL L (oa % 256) (max (hasI L (oa % 256)) 0 + ob)) (oa / 256) = true := by unfold putB; rw [hfd2]; rfl
    refine o_move_yes n1 n2 n3 rfl rfl HX (HH _) (HH _) h1 h2' (hbd _).1 (hbd _).2 (hbd _).2 _ hy (by simp only [not_or] at h3; exact h3.2) hP fun W v' hv' => Lib.hid ?_
    have := o_put (w := W) hv' hlen2 hev2 (oa / 256) (hasI L (oa / 256) - ob)
    rw [hb2] at this
    exact this
end Go.Proofs.Ytaoagaokocnehaa
