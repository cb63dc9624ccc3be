/-
  Package objs: the walks of number, line.
-/
import Derived.Deep.RegionLaw
import Derived.Deep.AppendLies
import Derived.BigRegion
import Derived.Test.YtjfenjnnpikkdaaKaa
set_option linter.unusedVariables false
set_option linter.unusedSimpArgs false
namespace Go.Proofs.Ytjfenjnnpikkdaa
set_option maxRecDepth 100000
open Go.RowKit

/-- What a step tells. -/
def StepP (w : World) (v0 : Value) (r : St × Int) (e : Ending) (w' : World) : Prop :=
  ∃ vl, e = .returned (.tuple #[.agg #[.int .i64 r.1.kind, vl, .bool r.1.isSealed, .int .i64 r.1.to], .int .i64 r.2]) ∧ Rd w' vl r.1.L ∧ Below w.heap.size w w' ∧ (vl = v0 ∨ (Own w' 3 1 vl r.1.L.length (ints r.1.L) ∧ Fresh w.heap.size vl))

theorem may_one {s : St} (hk : s.kind = 0 ∨ s.kind = 1) (hm : mayB s = true) : ∃ x, s.L = [x] ∧ -1099511627776 ≤ x ∧ x ≤ 1099511627776 := by
  unfold mayB at hm
  split at hm
  · simp at hm
  · simp only [Bool.and_eq_true, decide_eq_true_eq] at hm
    obtain ⟨h1, h2⟩ := hm
    obtain ⟨x, hx⟩ := List.length_eq_one_iff.1 h1
    refine ⟨x, hx, ?_⟩
    rw [hx] at h2
    unfold withinB at h2
    simp at h2
    have := cutI_range x
    omega

theorem below3 (w : World) (a b c : Obj) : Below w.heap.size w (((w.alloc a).alloc b).alloc c) := (((Below.refl _ w).alloc (Nat.le_refl _) _).alloc (by simp) _).alloc (by simp; omega) _
theorem stepp_same {w W : World} {vl : Value} {k t n : Int} {L : List Int} {b : Bool} (h : Rd w vl L) (hB : Below w.heap.size w W) : StepP w vl (⟨k, L, b, t⟩, n) (.returned (.tuple #[.agg #[.int .i64 k, vl, .bool b, .int .i64 t], .int .i64 n])) W :=
  ⟨_, rfl, h.below hB (Nat.le_refl _), hB, .inl rfl⟩
theorem stepp_one {w W : World} {v0 : Value} (hB : Below w.heap.size w W) (B : Nat) (hb : B = W.heap.size) (k t n z : Int) (b : Bool) : StepP w v0 (⟨k, [z], b, t⟩, n) (.returned (.tuple #[.agg #[.int .i64 k, .slice (some ⟨B, 0, none⟩) 1 1, .bool b, .int .i64 t], .int .i64 n])) (W.alloc (.cells #[.int .i64 z] 3)) := by
  subst hb
  have := own_lit W 3 (ints [z]) (by simp [ints, maxLen])
  exact ⟨_, rfl, own_rd (n := 1) this, hB.alloc hB.size _, .inr ⟨this, fresh_some hB.size⟩⟩

set_option maxRecDepth 100000 in
set_option maxHeartbeats 3200000 in
theorem o_number {w : World} {vl : Value} (s : St) (o : Op3) (hx : Rd w vl s.L) (hk : s.kind = 0 ∨ s.kind = 1) (hm : mayB s = true) :
    Calls Try.prog 73 #[.agg #[.int .i64 s.kind, vl, .bool s.isSealed, .int .i64 s.to], .agg #[.int .i64 o.code, .int .i64 o.a, .int .i64 o.b]] w (StepP w vl (numberS s o)) := by
  obtain ⟨x, hL, x1, x2⟩ := may_one hk hm
  obtain ⟨k, L, b, t⟩ := s
  obtain ⟨co, oa, ob⟩ := o
  simp only at hx hk hL hm ⊢
  subst hL
  obtain ⟨n, a, c, f, rfl, hn, hnc, hcm, hf, hv⟩ := hx.view
  simp at hn
  subst hn
  obtain ⟨bb, oo, rfl, hb, hc⟩ := hv (by omega)
  have hc0 := hc 0 (by omega)
  rw [hf, Nat.add_zero] at hc0
  simp only [List.getD_cons_zero] at hc0
  have hb1 : bb < w.heap.size + 1 := by omega
  have hb2 : bb < w.heap.size + 1 + 1 := by omega
  have HX := Lib.hid hx
  have HCa := fun W => Lib.hid (o_cut oa W)
  have HCs := fun W => Lib.hid (o_cut (x + cutI oa) W)
  have r1 := cutI_range oa
  obtain ⟨r1, r2⟩ := r1
  clear hf hc hv hx hm f
  by_cases c7 : co = 7
  · have hr : numberS ⟨k, [x], b, t⟩ ⟨co, oa, ob⟩ = (⟨k, [x], b, t⟩, x) := by simp [numberS, c7]
    rw [hr]
    subst c7
    clear hr HCa HCs
    go_enter Try.func73, Try.ntmps73
    go_wp2_with fail
    refine bodyPost_ret (v := .tuple #[.agg #[.int .i64 k, .slice (some ⟨bb, oo, none⟩) 1 c, .bool b, .int .i64 t], .int .i64 x]) ?_ rfl ?_
    · simp [results, Try.results73, go_sem]
    · exact stepp_same HX.out (below3 w _ _ _)
  · have c7' : (co == 7) = false := by simpa using c7
    by_cases ck : k = 0 ∧ co = 1
    · obtain ⟨rfl, rfl⟩ := ck
      have hr : numberS ⟨0, [x], b, t⟩ ⟨1, oa, ob⟩ = (⟨0, [cutI (x + cutI oa)], b, t⟩, x) := by simp [numberS]
      rw [hr]
      clear hr c7 HX
      generalize cutI oa = y at *
      generalize cutI (x + y) = z at *
      go_enter Try.func73, Try.ntmps73
      go_wp2_with fail
      refine (HCa _).out.mono ?_
      rintro e w1 ⟨rfl, rfl⟩
      go_wp2_with fail
      refine (HCs _).out.mono ?_
      rintro e w1 ⟨rfl, rfl⟩
      go_wp2_with fail
      refine bodyPost_ret (v := .tuple #[.agg #[.int .i64 0, .slice (some ⟨w.heap.size + 1 + 1 + 1, 0, none⟩) 1 1, .bool b, .int .i64 t], .int .i64 x]) ?_ rfl ?_
      · simp [results, Try.results73, go_sem]
      · exact stepp_one (below3 w _ _ _) _ (by simp) _ _ _ _ _
    · by_cases ck1 : k = 1 ∧ co = 2
      · obtain ⟨rfl, rfl⟩ := ck1
        have hr : numberS ⟨1, [x], b, t⟩ ⟨2, oa, ob⟩ = (⟨1, [cutI oa], b, t⟩, x) := by simp [numberS]
        rw [hr]
        clear hr c7 HX HCs
        generalize cutI oa = y at *
        go_enter Try.func73, Try.ntmps73
        go_wp2_with fail
        refine (HCa _).out.mono ?_
        rintro e w1 ⟨rfl, rfl⟩
        go_wp2_with fail
        refine bodyPost_ret (v := .tuple #[.agg #[.int .i64 1, .slice (some ⟨w.heap.size + 1 + 1 + 1, 0, none⟩) 1 1, .bool b, .int .i64 t], .int .i64 x]) ?_ rfl ?_
        · simp [results, Try.results73, go_sem]
        · exact stepp_one (below3 w _ _ _) _ (by simp) _ _ _ _ _
      · have hr : numberS ⟨k, [x], b, t⟩ ⟨co, oa, ob⟩ = (⟨k, [x], b, t⟩, 0) := by simp [numberS, c7, ck, ck1]
        rw [hr]
        clear hr HCa HCs c7
        rcases hk with rfl | rfl
        · have c1 : (co == 1) = false := by simp at ck; simpa using ck
          clear ck ck1
          go_enter Try.func73, Try.ntmps73
          go_wp2_with fail
          refine bodyPost_ret (v := .tuple #[.agg #[.int .i64 0, .slice (some ⟨bb, oo, none⟩) 1 c, .bool b, .int .i64 t], .int .i64 0]) ?_ rfl ?_
          · simp [results, Try.results73, go_sem]
          · exact stepp_same HX.out (below3 w _ _ _)
        · have c1 : (co == 2) = false := by simp at ck1; simpa using ck1
          clear ck ck1
          go_enter Try.func73, Try.ntmps73
          go_wp2_with fail
          refine bodyPost_ret (v := .tuple #[.agg #[.int .i64 1, .slice (some ⟨bb, oo, none⟩) 1 c, .bool b, .int .i64 t], .int .i64 0]) ?_ rfl ?_
          · simp [results, Try.results73, go_sem]
          · exact stepp_same HX.out (below3 w _ _ _)

theorem may_line {s : St} (hk : s.kind = 2 ∨ s.kind = 3) (hm : mayB s = true) : s.L.length ≤ 64 := by
  unfold mayB at hm
  split at hm
  · simp at hm
  · have h1 : ¬ (s.kind = 0 ∨ s.kind = 1) := by omega
    first | rw [if_neg h1, if_pos hk] at hm | rw [if_neg h1] at hm | skip
    simp only [Bool.and_eq_true, decide_eq_true_eq] at hm
    exact hm.1
end Go.Proofs.Ytjfenjnnpikkdaa
/- Package objs: the walk of line. -/
namespace Go.Proofs.Ytjfenjnnpikkdaa
set_option maxRecDepth 100000
open Go.RowKit

theorem bcell {n : Nat} {W w1 : World} (hb : Below n W w1) : (∀ b o, b < n → w1.cell? ⟨b, o, none⟩ = W.cell? ⟨b, o, none⟩) ∧ (∀ b o, b < n → w1.frozen? ⟨b, o, none⟩ = W.frozen? ⟨b, o, none⟩) :=
  ⟨fun b o h => hb.cell (p := ⟨b, o, none⟩) h, fun b o h => hb.frozen (p := ⟨b, o, none⟩) h⟩

/-- The stores of a return: into the boxed state's list, into the result. -/
theorem sets_keeps (w4 : World) (B C : Nat) (v1 v2 v3 v4 v5 : Value) : Keeps (fun k => k = B ∨ k = C) w4 (((((w4.setCell ⟨B, 1, none⟩ v1).setCell ⟨C, 0, none⟩ v2).setCell ⟨C, 1, none⟩ v3).setCell ⟨C, 2, none⟩ v4).setCell ⟨C, 3, none⟩ v5) :=
  ((((((Keeps.refl _ w4).set B 1 (.inl (.inl rfl)) _).set C 0 (.inl (.inr rfl)) _).set C 1 (.inl (.inr rfl)) _).set C 2 (.inl (.inr rfl)) _).set C 3 (.inl (.inr rfl)) _)
/-- A state whose list is a row of the call's own. -/
theorem stepp_own {w w4 W : World} {B C : Nat} {v v0 : Value} {m : Nat} {L : List Int} {cb cc : Array Value} (hB : Blk w4 B cb 24) (hC : Blk w4 C cc 24) (hk : Keeps (fun k => k = B ∨ k = C) w4 W) (hb : Below w.heap.size w w4) (h1 : w.heap.size ≤ B) (h2 : w.heap.size ≤ C)
    (ho : Own w4 3 1 v m (ints L)) (hfr : Fresh w.heap.size v) (k t n : Int) (b : Bool) : StepP w v0 (⟨k, L, b, t⟩, n) (.returned (.tuple #[.agg #[.int .i64 k, v, .bool b, .int .i64 t], .int .i64 n])) W := by
  have h := own_keeps ho hk (by
    rintro q hq (rfl | rfl)
    · exact own_blk_ne ho hB (by decide) hq
    · exact own_blk_ne ho hC (by decide) hq)
  have hm : m = L.length := by have := h.1; simp [ints] at this; omega
  subst hm
  exact ⟨_, rfl, own_rd h, hb.trans (hk.below (by rintro k (rfl | rfl) <;> assumption) hb.size), .inr ⟨h, hfr⟩⟩

theorem o_cut' (n : Int) (w : World) : Calls Try.prog 60 #[.int .i64 n] w fun e w' => e = .returned (.int .i64 (cutI n)) ∧ w = w' := (o_cut n w).mono fun _ _ ⟨h1, h2⟩ => ⟨h1, h2.symm⟩

set_option maxRecDepth 100000 in
set_option maxHeartbeats 3200000 in
theorem o_push {w : World} {vl : Value} (k : Int) (L : List Int) (b : Bool) (t oa ob : Int) (hx : Rd w vl L) (hl : L.length < 64) :
    Calls Try.prog 74 #[.agg #[.int .i64 k, vl, .bool b, .int .i64 t], .agg #[.int .i64 3, .int .i64 oa, .int .i64 ob]] w (StepP w vl (⟨k, L ++ [cutI oa], b, t⟩, L.length + 1)) := by
  obtain ⟨i0, hi, hz0, hz1, hz2⟩ := info_parts infoInt
  obtain ⟨n, a, c, hvl, hn⟩ : ∃ n a c, vl = .slice a n c ∧ n = L.length := by
    obtain ⟨a, c, e, _⟩ := hx
    exact ⟨_, a, c, e, rfl⟩
  subst hvl
  have HN := Lib.hid hn
  have hl' : n < 64 := by omega
  have HC := fun W (hB : Below w.heap.size w W) => Lib.hid (sl_clone (w := W.drew) ((hx.below hB (Nat.le_refl _)).drew) (by omega))
  have HCa := fun W => Lib.hid (o_cut' oa W)
  rw [← hn]
  clear hn hx hl
  go_enter Try.func74, Try.ntmps74
  go_wp2_with fail
  go_region_law (first | (go_simp; go_at_call 47; refine (HC _ (below3 w _ _ _)).out.mono ?_; rintro e w2 ⟨v2, rfl, hown, hfr, hb2⟩; obtain ⟨hc2, hf2⟩ := bcell hb2; have hz2' : w.heap.size + 3 ≤ w2.heap.size := (by have := hb2.size; simp at this; omega); have HB2 := Lib.hid hb2; have HO2 := Lib.hid hown; have HF2 := Lib.hid hfr; clear hb2 hown hfr) | (go_simp; go_at_call 60; refine (HCa _).out.mono ?_; rintro e w3 ⟨rfl, rfl⟩) | (refine step_append_lies _ rfl (.tmp 28) (.tmp 32) 22 rfl 0 3 i0 (.int .i64 0) 1 8 Try.underlying22 hi hz0 hz1 hz2 rfl (by decide) v2 _ _ (by simp [Act.eval, Act.put]) (HO2.out.alloc _) ⟨w2.heap.size, 0, none⟩ 1 1 [.int .i64 (cutI oa)] (by simp [Act.eval, Act.put]) (by simp) (cell_one_new _ _ _) (by simp [Value.oneCell']) (by omega) (by rw [← HN.out]; simp only [maxLen]; omega) (by rw [← HN.out]; omega) (Nat.zero_le _) (w2.heap.size + 1) (by simp) ?_; intro g cap w4 hown4 hgrow hat hlt4; have hb4 := (HB2.out.alloc HB2.out.size (.cells #[.int .i64 (cutI oa)] 3)).grown hgrow (by have := HB2.out.size; rw [World.size_alloc]; omega) (fun k hk => HF2.out k hk); obtain ⟨hc4, hf4⟩ := bcell hb4; have hz4 : w.heap.size + 3 ≤ w4.heap.size := (by have := hb4.size; simp at this; omega); have HB4 := Lib.hid hb4; have HO4 := Lib.hid hown4; have HAT := Lib.hid hat; clear hb4 hown4 hc2 hf2 hgrow hat))
  all_goals
    have b0 := (((Blk.new w #[.int .i64 k, .slice a n c, .bool b, .int .i64 t] 24).alloc (.cells #[.int .i64 3, .int .i64 oa, .int .i64 ob] 37)).alloc (.cells #[.int .i64 0, .slice none 0 0, .bool false, .int .i64 0] 24)).drew.below HB4.out (by simp; omega)
    have b2 := (Blk.new ((w.alloc (.cells #[.int .i64 k, .slice a n c, .bool b, .int .i64 t] 24)).alloc (.cells #[.int .i64 3, .int .i64 oa, .int .i64 ob] 37)) #[.int .i64 0, .slice none 0 0, .bool false, .int .i64 0] 24).drew.below HB4.out (by simp)
    simp only [World.size_alloc] at b2
    have hk0 : w4.cell? ⟨w.heap.size, 0, none⟩ = some (.int .i64 k) := by rw [b0.cell]; rfl
    have hk1 : w4.cell? ⟨w.heap.size, 1, none⟩ = some (.slice a n c) := by rw [b0.cell]; rfl
    have hk2 : w4.cell? ⟨w.heap.size, 2, none⟩ = some (.bool b) := by rw [b0.cell]; rfl
    have hk3 : w4.cell? ⟨w.heap.size, 3, none⟩ = some (.int .i64 t) := by rw [b0.cell]; rfl
    have hr0 : w4.cell? ⟨w.heap.size + 1 + 1, 0, none⟩ = some (.int .i64 0) := by rw [b2.cell]; rfl
    have hr1 : w4.cell? ⟨w.heap.size + 1 + 1, 1, none⟩ = some (.slice none 0 0) := by rw [b2.cell]; rfl
    have hr2 : w4.cell? ⟨w.heap.size + 1 + 1, 2, none⟩ = some (.bool false) := by rw [b2.cell]; rfl
    have hr3 : w4.cell? ⟨w.heap.size + 1 + 1, 3, none⟩ = some (.int .i64 0) := by rw [b2.cell]; rfl
    have B0 := Lib.hid b0
    have B2 := Lib.hid b2
    clear b0 b2 hc4
    go_wp2_with fail
    refine bodyPost_ret (v := .tuple #[.agg #[.int .i64 k, .slice (some ⟨g, 0, none⟩) (L.length + 1) cap, .bool b, .int .i64 t], .int .i64 (n + 1)]) ?_ rfl ?_
    · simp [results, Try.results74, go_sem, hr0, hr1, hr2, hr3]
    · have hb : Below w.heap.size w w4 := ((below3 w _ _ _).drew.trans (HB4.out.mono (by simp; omega)))
      rw [show ints L ++ [Value.int .i64 (cutI oa)] = ints (L ++ [cutI oa]) by simp [ints]] at HO4
      exact stepp_own B0.out B2.out (sets_keeps _ _ _ _ _ _ _ _) hb (Nat.le_refl _) (by omega) HO4.out (fresh_some (by rcases HAT.out with e | e; (have := HF2.out _ e; simp at this; omega); omega)) _ _ _ _

/-- What the boxes of a call hold, behind a callee. -/
theorem box_facts {w w4 : World} {k t co oa ob : Int} {vl : Value} {b : Bool} (h : Below (w.heap.size + 1 + 1 + 1) (((w.alloc (.cells #[.int .i64 k, vl, .bool b, .int .i64 t] 24)).alloc (.cells #[.int .i64 co, .int .i64 oa, .int .i64 ob] 37)).alloc (.cells #[.int .i64 0, .slice none 0 0, .bool false, .int .i64 0] 24)) w4) :
    Blk w4 w.heap.size #[.int .i64 k, vl, .bool b, .int .i64 t] 24 ∧ Blk w4 (w.heap.size + 1) #[.int .i64 co, .int .i64 oa, .int .i64 ob] 37 ∧ Blk w4 (w.heap.size + 1 + 1) #[.int .i64 0, .slice none 0 0, .bool false, .int .i64 0] 24 ∧ w.heap.size + 1 + 1 + 1 ≤ w4.heap.size ∧ Below w.heap.size w w4 := by
  have b1 := (Blk.new (w.alloc (.cells #[.int .i64 k, vl, .bool b, .int .i64 t] 24)) #[.int .i64 co, .int .i64 oa, .int .i64 ob] 37).alloc (.cells #[.int .i64 0, .slice none 0 0, .bool false, .int .i64 0] 24)
  have b2 := Blk.new ((w.alloc (.cells #[.int .i64 k, vl, .bool b, .int .i64 t] 24)).alloc (.cells #[.int .i64 co, .int .i64 oa, .int .i64 ob] 37)) #[.int .i64 0, .slice none 0 0, .bool false, .int .i64 0] 24
  simp only [World.size_alloc] at b1 b2
  refine ⟨(((Blk.new w _ _).alloc _).alloc _).below h (by omega), b1.below h (by omega), b2.below h (by omega), by have := h.size; simpa using this, (below3 w _ _ _).trans (h.mono (by omega))⟩

set_option maxRecDepth 100000 in
set_option maxHeartbeats 3200000 in
theorem o_line {w : World} {vl : Value} (s : St) (o : Op3) (hx : Rd w vl s.L) (hk : s.kind = 2 ∨ s.kind = 3) (hm : mayB s = true) :
    Calls Try.prog 74 #[.agg #[.int .i64 s.kind, vl, .bool s.isSealed, .int .i64 s.to], .agg #[.int .i64 o.code, .int .i64 o.a, .int .i64 o.b]] w (StepP w vl (lineS s o)) := by
  have h64 := may_line hk hm
  obtain ⟨k, L, b, t⟩ := s
  obtain ⟨co, oa, ob⟩ := o
  simp only at hx hk h64 hm ⊢
  by_cases cp : co = 3 ∧ L.length < 64
  · obtain ⟨rfl, hl⟩ := cp
    have hr : lineS ⟨k, L, b, t⟩ ⟨3, oa, ob⟩ = ((⟨k, L ++ [cutI oa], b, t⟩ : St), ((L.length : Int) + 1)) := by simp [lineS, hl]
    rw [hr]
    exact o_push k L b t oa ob hx hl
  · have HX := Lib.hid hx
    obtain ⟨n, a, c, f, hvl, hn, hnc, hcm, hf, hv⟩ := hx.view
    subst hvl
    have h64' : n ≤ 64 := by omega
    have HN := Lib.hid hn
    have HF := Lib.hid hf
    have HV := Lib.hid hv
    have same : ∀ (r : Int) (W : World), Below w.heap.size w W → StepP w (.slice a n c) (⟨k, L, b, t⟩, r) (.returned (.tuple #[.agg #[.int .i64 k, .slice a n c, .bool b, .int .i64 t], .int .i64 r])) W := fun r W hB => stepp_same HX.out hB
    have HS := Lib.hid same
    clear same hx hm hf hv h64
    by_cases c7 : co = 7
    · have hr : lineS ⟨k, L, b, t⟩ ⟨co, oa, ob⟩ = ((⟨k, L, b, t⟩ : St), (n : Int)) := by simp [lineS, c7, hn]
      rw [hr]
      subst c7
      clear hr cp hn
      go_enter Try.func74, Try.ntmps74
      go_wp2_with fail
      refine bodyPost_ret (v := .tuple #[.agg #[.int .i64 k, .slice a n c, .bool b, .int .i64 t], .int .i64 n]) ?_ rfl ?_
      · simp [results, Try.results74, go_sem]
      · exact HS.out _ _ (below3 w _ _ _)
    · have c7' : (co == 7) = false := by simpa using c7
      by_cases c3 : co = 3
      · have hl : ¬ n < 64 := by rw [hn]; exact fun h => cp ⟨c3, h⟩
        have hr : lineS ⟨k, L, b, t⟩ ⟨co, oa, ob⟩ = (⟨k, L, b, t⟩, -1) := by rw [hn] at hl; simp [lineS, c3, hl]
        rw [hr]
        subst c3
        clear hr cp hn c7
        go_enter Try.func74, Try.ntmps74
        go_wp2_with fail
        refine bodyPost_ret (v := .tuple #[.agg #[.int .i64 k, .slice a n c, .bool b, .int .i64 t], .int .i64 (-1)]) ?_ rfl ?_
        · simp [results, Try.results74, go_sem]
        · exact HS.out _ _ (below3 w _ _ _)
      · have c3' : (co == 3) = false := by simpa using c3
        by_cases c4 : co = 4
        · by_cases h0 : n = 0
          · have hr : lineS ⟨k, L, b, t⟩ ⟨co, oa, ob⟩ = (⟨k, L, b, t⟩, -1) := by rw [hn] at h0; simp [lineS, c4, h0]
            rw [hr]
            subst c4
            subst h0
            clear hr cp hn c7 c3
            go_enter Try.func74, Try.ntmps74
            go_wp2_with fail
            refine bodyPost_ret (v := .tuple #[.agg #[.int .i64 k, .slice a 0 c, .bool b, .int .i64 t], .int .i64 (-1)]) ?_ rfl ?_
            · simp [results, Try.results74, go_sem]
            · exact HS.out _ _ (below3 w _ _ _)
          · subst c4
            obtain ⟨m, rfl⟩ : ∃ m, n = m + 1 := ⟨n - 1, by omega⟩
            obtain ⟨bb, oo, rfl, hb, hc⟩ := HV.out (by omega)
            have hb1 : bb < w.heap.size + 1 := by omega
            have hb2 : bb < w.heap.size + 1 + 1 := by omega
            have HC := fun W (hB : Below w.heap.size w W) => Lib.hid (sl_clone (w := W) (HX.out.below hB (Nat.le_refl _)) (by rw [← HN.out]; omega))
            have hm0 : (((m + 1 : Nat) : Int) == 0) = false := by simp; omega
            clear cp c7 c3 h0 HS
            rcases hk with rfl | rfl
            · have hr : lineS ⟨2, L, b, t⟩ ⟨4, oa, ob⟩ = (⟨2, L.drop 1, b, t⟩, f 0) := by
                rw [HF.out]; simp [lineS, ← HN.out]
              rw [hr]
              have hc0 := hc 0 (by omega)
              rw [Nat.add_zero] at hc0
              generalize f 0 = x at *
              clear hr hc hn
              go_enter Try.func74, Try.ntmps74
              go_wp2_with fail
              refine (HC _ (below3 w _ _ _)).out.mono ?_
              rintro e w2 ⟨v2, rfl, hown, hfr, hb2'⟩
              rw [← HN.out] at hown
              obtain ⟨g, c2, rfl, g1, g2⟩ := own_open hown (by omega)
              have HO2 := Lib.hid hown
              have HFR := Lib.hid (hfr g rfl)
              have HB2 := Lib.hid hb2'
              clear hown hfr hb2' HC
              go_wp2_with fail
              refine (sl_delete HO2.out 0 1 (by omega) (by omega)).mono ?_
              rintro e w4 ⟨rfl, hown4, hk4⟩
              have hB4 : Below (w.heap.size + 1 + 1 + 1) _ w4 := (HB2.out.mono (by simp)).trans (hk4.below (by rintro q rfl; have := HFR.out; simpa using this) (by have := HB2.out.size; simpa using this))
              obtain ⟨b0, b1, b2, hz4, hb4⟩ := box_facts hB4
              have hk0 : w4.cell? ⟨w.heap.size, 0, none⟩ = some (.int .i64 2) := by rw [b0.cell]; rfl
              have hk1 : w4.cell? ⟨w.heap.size, 1, none⟩ = some (.slice (some ⟨bb, oo, none⟩) (m + 1) c) := by rw [b0.cell]; rfl
              have hk2 : w4.cell? ⟨w.heap.size, 2, none⟩ = some (.bool b) := by rw [b0.cell]; rfl
              have hk3 : w4.cell? ⟨w.heap.size, 3, none⟩ = some (.int .i64 t) := by rw [b0.cell]; rfl
              have hr0 : w4.cell? ⟨w.heap.size + 1 + 1, 0, none⟩ = some (.int .i64 0) := by rw [b2.cell]; rfl
              have hr1 : w4.cell? ⟨w.heap.size + 1 + 1, 1, none⟩ = some (.slice none 0 0) := by rw [b2.cell]; rfl
              have hr2 : w4.cell? ⟨w.heap.size + 1 + 1, 2, none⟩ = some (.bool false) := by rw [b2.cell]; rfl
              have hr3 : w4.cell? ⟨w.heap.size + 1 + 1, 3, none⟩ = some (.int .i64 0) := by rw [b2.cell]; rfl
              have hfz0 := b0.frozen 1
              have hfr0 := b2.frozen 0
              have hfr1 := b2.frozen 1
              have hfr2 := b2.frozen 2
              have hfr3 := b2.frozen 3
              have B0 := Lib.hid b0
              have B2 := Lib.hid b2
              have hown4' : Own w4 3 1 (.slice (some ⟨g, 0, none⟩) m c2) m (ints (L.drop 1)) := by simpa using hown4
              have HO4 := Lib.hid hown4'
              have HB4 := Lib.hid hb4
              clear b0 b1 b2 hB4 hown4 hown4' hk4 hb4
              go_wp2_with fail
              refine bodyPost_ret (v := .tuple #[.agg #[.int .i64 2, .slice (some ⟨g, 0, none⟩) m c2, .bool b, .int .i64 t], .int .i64 x]) ?_ rfl ?_
              · simp [results, Try.results74, go_sem, hr0, hr1, hr2, hr3]
              · exact stepp_own B0.out B2.out (sets_keeps _ _ _ _ _ _ _ _) HB4.out (Nat.le_refl _) (by omega) HO4.out (fresh_some (by have := HFR.out; simp at this; omega)) _ _ _ _
            · have hr : lineS ⟨3, L, b, t⟩ ⟨4, oa, ob⟩ = (⟨3, L.take m, b, t⟩, f m) := by
                rw [HF.out]; simp [lineS, ← HN.out]
              rw [hr]
              have hc0 := hc m (by omega)
              generalize f m = x at *
              clear hr hc hn
              go_enter Try.func74, Try.ntmps74
              go_wp2_with fail
              refine (HC _ (below3 w _ _ _)).out.mono ?_
              rintro e w2 ⟨v2, rfl, hown, hfr, hb2'⟩
              rw [← HN.out] at hown
              obtain ⟨g, c2, rfl, g1, g2⟩ := own_open hown (by omega)
              have HO2 := Lib.hid hown
              have HFR := Lib.hid (hfr g rfl)
              have HB2 := Lib.hid hb2'
              clear hown hfr hb2' HC
              go_wp2_with fail
              refine (sl_delete HO2.out m (m + 1) (by omega) (by omega)).mono ?_
              rintro e w4 ⟨rfl, hown4, hk4⟩
              have hB4 : Below (w.heap.size + 1 + 1 + 1) _ w4 := (HB2.out.mono (by simp)).trans (hk4.below (by rintro q rfl; have := HFR.out; simpa using this) (by have := HB2.out.size; simpa using this))
              obtain ⟨b0, b1, b2, hz4, hb4⟩ := box_facts hB4
              have hk0 : w4.cell? ⟨w.heap.size, 0, none⟩ = some (.int .i64 3) := by rw [b0.cell]; rfl
              have hk1 : w4.cell? ⟨w.heap.size, 1, none⟩ = some (.slice (some ⟨bb, oo, none⟩) (m + 1) c) := by rw [b0.cell]; rfl
              have hk2 : w4.cell? ⟨w.heap.size, 2, none⟩ = some (.bool b) := by rw [b0.cell]; rfl
              have hk3 : w4.cell? ⟨w.heap.size, 3, none⟩ = some (.int .i64 t) := by rw [b0.cell]; rfl
              have hr0 : w4.cell? ⟨w.heap.size + 1 + 1, 0, none⟩ = some (.int .i64 0) := by rw [b2.cell]; rfl
              have hr1 : w4.cell? ⟨w.heap.size + 1 + 1, 1, none⟩ = some (.slice none 0 0) := by rw [b2.cell]; rfl
              have hr2 : w4.cell? ⟨w.heap.size + 1 + 1, 2, none⟩ = some (.bool false) := by rw [b2.cell]; rfl
              have hr3 : w4.cell? ⟨w.heap.size + 1 + 1, 3, none⟩ = some (.int .i64 0) := by rw [b2.cell]; rfl
              have hfz0 := b0.frozen 1
              have hfr0 := b2.frozen 0
              have hfr1 := b2.frozen 1
              have hfr2 := b2.frozen 2
              have hfr3 := b2.frozen 3
              have B0 := Lib.hid b0
              have B2 := Lib.hid b2
              have hown4' : Own w4 3 1 (.slice (some ⟨g, 0, none⟩) m c2) m (ints (L.take m)) := by
                have e : L.drop (m + 1) = [] := List.drop_eq_nil_of_le (by rw [← HN.out]; omega)
                rw [e, List.append_nil, Nat.sub_self, Nat.add_zero] at hown4
                exact hown4
              have HO4 := Lib.hid hown4'
              have HB4 := Lib.hid hb4
              clear b0 b1 b2 hB4 hown4 hown4' hk4 hb4
              go_wp2_with fail
              refine bodyPost_ret (v := .tuple #[.agg #[.int .i64 3, .slice (some ⟨g, 0, none⟩) m c2, .bool b, .int .i64 t], .int .i64 x]) ?_ rfl ?_
              · simp [results, Try.results74, go_sem, hr0, hr1, hr2, hr3]
              · exact stepp_own B0.out B2.out (sets_keeps _ _ _ _ _ _ _ _) HB4.out (Nat.le_refl _) (by omega) HO4.out (fresh_some (by have := HFR.out; simp at this; omega)) _ _ _ _
        · have c4' : (co != 4) = true := by simpa using c4
          have c4'' : (co == 4) = false := by simpa using c4
          have hr : lineS ⟨k, L, b, t⟩ ⟨co, oa, ob⟩ = (⟨k, L, b, t⟩, 0) := by simp [lineS, c7, c3, c4]
          rw [hr]
          clear hr cp c7 c3 c4 hn
          go_enter Try.func74, Try.ntmps74
          go_wp2_with fail
          refine bodyPost_ret (v := .tuple #[.agg #[.int .i64 k, .slice a n c, .bool b, .int .i64 t], .int .i64 0]) ?_ rfl ?_
          · simp [results, Try.results74, go_sem]
          · exact HS.out _ _ (below3 w _ _ _)
end Go.Proofs.Ytjfenjnnpikkdaa
