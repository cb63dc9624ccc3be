/-
  Package herlihy: find, Step, Busy, Invoke refused.
-/
import Derived.Test.YtjfenjnnpikkdaaKd
import Derived.Test.YtjfenjnnpikkdaaKid
set_option linter.unusedVariables false
set_option linter.unusedSimpArgs false
namespace Go.Proofs.Ytjfenjnnpikkdaa
set_option maxRecDepth 100000
open Go.RowKit
open Go.Proofs.YtjfenjnnpikkdaaW.PrintLast

theorem he_find {w : World} {base be n : Nat} {R : HRef} {s : St} {H : HS} (h : HRep w base be R n s H) (p : Int) :
    Calls Try.prog 56 #[.pointer (some ⟨be, 0, none⟩), .int .i64 p] w fun e w' => e = .returned (.pointer (if 0 ≤ p ∧ p < n then some ⟨R.pa p.toNat, 0, none⟩ else none)) ∧ w' = w := by
  have e7 : w.cell? ⟨be, 7, none⟩ = some R.vp := h.eng.cell 7
  have hsm := h.small
  obtain ⟨gp, cp, evp, _⟩ := own_open h.procs h.small.1
  have ho := h.procs
  rw [evp] at e7 ho
  by_cases h0 : p < 0
  · rw [if_neg (by omega)]
    have b0 : decide (p < 0) = true := decide_eq_true h0
    have HV := Lib.hid evp
    clear evp
    go_enter Try.func56, Try.ntmps56
    go_wp2
    go_ret
    exact ⟨rfl, rfl⟩
  · obtain ⟨q, rfl⟩ := Int.eq_ofNat_of_zero_le (show 0 ≤ p by omega)
    by_cases h1 : q < n
    · rw [if_pos (by omega), Int.toNat_natCast]
      have c0 : w.cell? ⟨gp, q, none⟩ = some (.pointer (some ⟨R.pa q, 0, none⟩)) := by
        rw [World.ownsRow.cellAt ho q (by omega)]; simp [h1]
      have b1 : decide ((n : Int) ≤ (q : Int)) = false := decide_eq_false (by omega)
      have b2 : decide (n ≤ q) = false := decide_eq_false (by omega)
      have HV := Lib.hid evp
      clear evp h0
      go_enter Try.func56, Try.ntmps56
      go_wp2
      go_ret
      exact ⟨rfl, rfl⟩
    · rw [if_neg (by omega)]
      have b1 : decide ((n : Int) ≤ (q : Int)) = true := decide_eq_true (by omega)
      have b2 : decide (n ≤ q) = true := decide_eq_true (by omega)
      have HV := Lib.hid evp
      clear evp h0
      go_enter Try.func56, Try.ntmps56
      go_wp2
      go_ret
      exact ⟨rfl, rfl⟩
theorem HPost.from {w w2 : World} {base be n : Nat} {R : HRef} {s : St} {H : HS} {v : Value} {e : Ending} {w' : World} (hb : Below w.heap.size w w2) (h : HPost w2 base be R n s H v e w') : HPost w base be R n s H v e w' := by
  obtain ⟨h1, R', h2, h3, h4⟩ := h
  exact ⟨h1, R', h2, fun k hk => h3 k (Nat.lt_of_lt_of_le hk hb.size), (Keeps.ofBelow hb).trans' h4⟩
theorem HPost.same {w w2 : World} {base be n : Nat} {R : HRef} {s : St} {H : HS} (hb : Below w.heap.size w w2) (h : HRep w base be R n s H) (v : Value) : HPost w base be R n s H v (.returned v) w2 :=
  ⟨rfl, R, h.keeps (F := fun _ => False) (Keeps.ofBelow hb) (by simp), fun _ _ => rfl, Keeps.ofBelow hb⟩

set_option maxRecDepth 100000 in
set_option maxHeartbeats 3200000 in
/-- A step of a method that goes on. -/
theorem he_step_go {w : World} {base be n p : Nat} {R : HRef} {s : St} {H H' : HS} (h : HRep w base be R n s H) (hp : p < n) (f : FuncId) (hf : hphV (R.pa p) (H.procs p).ph = bound f (R.pa p)) (hk : ∀ args W, (callFunc f args).run Try.prog W = .ok (.enter f args) W)
    (hC : Calls Try.prog f #[.pointer (some ⟨R.pa p, 0, none⟩)] w (HPost w base be R n s H' (.tuple #[.int .i64 0, .bool false]))) :
    Calls Try.prog 34 #[.pointer (some ⟨be, 0, none⟩), .int .i64 p] w (HPost w base be R n s H' (.tuple #[.int .i64 0, .bool false])) := by
  have hx := h.proc p hp
  have hF := he_find h (p : Int)
  rw [if_pos (by omega), Int.toNat_natCast] at hF
  have p5 : w.cell? ⟨R.pa p, 5, none⟩ = some (hphV (R.pa p) (H.procs p).ph) := hx.blk.cell 5
  rw [hf] at p5
  obtain ⟨ta, tb, tv, hty⟩ := stepFn
  have heq := fun (w : World) (f : Fn) (x y : Array Value) => run_eql_func w _ hty f x y
  have HF := Lib.hid hF
  have HC := Lib.hid hC
  have HH := Lib.hid h
  have HP := Lib.hid hf
  clear hF hC h hf hty hx
  go_enter Try.func34, Try.ntmps34
  go_wp2_with (go_at_call 56; refine HF.out.mono ?_; rintro e w3 ⟨rfl, rfl⟩)
  refine HC.out.mono ?_
  rintro e w4 ⟨rfl, hR⟩
  have HR := Lib.hid hR
  clear hR heq
  go_wp2_with fail
  go_ret2
  exact ⟨rfl, HR.out⟩

set_option maxRecDepth 100000 in
set_option maxHeartbeats 3200000 in
/-- The last step of an operation. -/
theorem he_step_fin {w : World} {base be n p : Nat} {R : HRef} {s : St} {H : HS} (h : HRep w base be R n s H) (hp : p < n) (hph : (H.procs p).ph = .finish) (hn : (H.procs p).node < H.nodes.length) (hd : (H.nd (H.procs p).node).done = true) :
    Calls Try.prog 34 #[.pointer (some ⟨be, 0, none⟩), .int .i64 p] w (HPost w base be R n s (H.step n p).1 (.tuple #[.int .i64 (H.step n p).2.1, .bool (H.step n p).2.2])) := by
  have e0 : H.step n p = (⟨H.nodes, H.chain, H.ann, H.head, upd H.procs p { H.procs p with ph := .idle }⟩, (H.nd (H.procs p).node).resp, true) := by unfold HS.step; rw [hph]; simp [HS.stp, HS.put, hd]
  rw [e0]
  clear e0
  have hx := h.proc p hp
  have hF := he_find h (p : Int)
  rw [if_pos (by omega), Int.toNat_natCast] at hF
  have p5 : w.cell? ⟨R.pa p, 5, none⟩ = some (hphV (R.pa p) (H.procs p).ph) := hx.blk.cell 5
  rw [hph] at p5
  simp only [hphV] at p5
  obtain ⟨ta, tb, tv, hty⟩ := stepFn
  have heq := fun (w : World) (f : Fn) (x y : Array Value) => run_eql_func w _ hty f x y
  have HF := Lib.hid hF
  have HC := Lib.hid (he_finish h hp hn hd)
  have HH := Lib.hid h
  have HP := Lib.hid hph
  have nP := h.nP hp
  clear hF h hph hty
  go_enter Try.func34, Try.ntmps34
  go_wp2_with (go_at_call 56; refine HF.out.mono ?_; rintro e w3 ⟨rfl, rfl⟩)
  refine HC.out.mono ?_
  rintro e w4 ⟨rfl, ⟨s4, hM4⟩, hK4⟩
  have hB4 := hx.blk.keeps hK4 nP
  have c5 := hB4.cell 5
  have f5 := hB4.frozen 5
  have HM := Lib.hid hM4
  have HK := Lib.hid hK4
  clear hM4 hK4 heq p5
  go_wp2_with fail
  go_ret2
  exact HH.out.fin hp (x := { H.procs p with ph := .idle }) (steps := s4) ((HK.out.mono fun k hk => .inl hk).set _ 5 (.inl (.inr rfl)) _) rfl (same_nodes H) (R.bef p) (HM.out.other nP _) (hB4.set 5 _) _

set_option maxRecDepth 100000 in
set_option maxHeartbeats 3200000 in
/-- A step of one that has nothing to do, or that there is not. -/
theorem he_step_not {w : World} {base be n : Nat} {R : HRef} {s : St} {H : HS} (h : HRep w base be R n s H) (p : Int) (hno : ¬ (0 ≤ p ∧ p < n) ∨ (H.procs p.toNat).ph = .idle) :
    Calls Try.prog 34 #[.pointer (some ⟨be, 0, none⟩), .int .i64 p] w fun e w' => e = .returned (.tuple #[.int .i64 0, .bool false]) ∧ w' = w := by
  have hF := he_find h p
  by_cases hin : 0 ≤ p ∧ p < n
  · rw [if_pos hin] at hF
    have hph := hno.resolve_left (fun h => h hin)
    have hx := h.proc p.toNat (by omega)
    have p5 : w.cell? ⟨R.pa p.toNat, 5, none⟩ = some (hphV (R.pa p.toNat) (H.procs p.toNat).ph) := hx.blk.cell 5
    rw [hph] at p5
    simp only [hphV] at p5
    obtain ⟨ta, tb, tv, hty⟩ := stepFn
    have heq := fun (w : World) => run_eql_nils w _ hty
    have HF := Lib.hid hF
    clear hF h hph hty hno
    go_enter Try.func34, Try.ntmps34
    go_wp2_with (go_at_call 56; refine HF.out.mono ?_; rintro e w3 ⟨rfl, rfl⟩)
    go_ret2
    exact ⟨rfl, rfl⟩
  · rw [if_neg hin] at hF
    have HF := Lib.hid hF
    clear hF h hno
    go_enter Try.func34, Try.ntmps34
    go_wp2_with (go_at_call 56; refine HF.out.mono ?_; rintro e w3 ⟨rfl, rfl⟩)
    go_ret2
    exact ⟨rfl, rfl⟩
set_option maxRecDepth 100000 in
set_option maxHeartbeats 3200000 in
theorem he_busy {w : World} {base be n : Nat} {R : HRef} {s : St} {H : HS} (h : HRep w base be R n s H) (p : Int) :
    Calls Try.prog 35 #[.pointer (some ⟨be, 0, none⟩), .int .i64 p] w fun e w' => e = .returned (.bool (decide (0 ≤ p ∧ p < n ∧ (H.procs p.toNat).ph ≠ .idle))) ∧ w' = w := by
  have hF := he_find h p
  by_cases hin : 0 ≤ p ∧ p < n
  · rw [if_pos hin] at hF
    have hx := h.proc p.toNat (by omega)
    have p5 : w.cell? ⟨R.pa p.toNat, 5, none⟩ = some (hphV (R.pa p.toNat) (H.procs p.toNat).ph) := hx.blk.cell 5
    obtain ⟨ta, tb, tv, hty⟩ := stepFn
    have HF := Lib.hid hF
    by_cases hph : (H.procs p.toNat).ph = .idle
    · rw [decide_eq_false (fun h => h.2.2 hph)]
      rw [hph] at p5
      simp only [hphV] at p5
      have heq := fun (w : World) => run_neq_nils w _ hty
      clear hF h hph hty hin hx
      go_enter Try.func35, Try.ntmps35
      go_wp2_with (go_at_call 56; refine HF.out.mono ?_; rintro e w3 ⟨rfl, rfl⟩)
      go_ret
      exact ⟨rfl, rfl⟩
    · rw [decide_eq_true ⟨hin.1, hin.2, hph⟩]
      obtain ⟨f, hf⟩ : ∃ f, hphV (R.pa p.toNat) (H.procs p.toNat).ph = bound f (R.pa p.toNat) := by
        cases hph' : (H.procs p.toNat).ph with
        | idle => exact absurd hph' hph
        | announce => exact ⟨_, rfl⟩
        | lookHead => exact ⟨_, rfl⟩
        | lookPlace => exact ⟨_, rfl⟩
        | take => exact ⟨_, rfl⟩
        | ask => exact ⟨_, rfl⟩
        | offer => exact ⟨_, rfl⟩
        | check => exact ⟨_, rfl⟩
        | swap => exact ⟨_, rfl⟩
        | follow => exact ⟨_, rfl⟩
        | reckon => exact ⟨_, rfl⟩
        | number => exact ⟨_, rfl⟩
        | move => exact ⟨_, rfl⟩
        | finish => exact ⟨_, rfl⟩
      rw [hf] at p5
      have heq := fun (w : World) (f : Fn) (x y : Array Value) => run_neq_func w _ hty f x y
      clear hF h hph hty hin hx hf
      go_enter Try.func35, Try.ntmps35
      go_wp2_with (go_at_call 56; refine HF.out.mono ?_; rintro e w3 ⟨rfl, rfl⟩)
      go_ret
      exact ⟨rfl, rfl⟩
  · rw [if_neg hin] at hF
    rw [decide_eq_false (fun h => hin ⟨h.1, h.2.1⟩)]
    have HF := Lib.hid hF
    clear hF h hin
    go_enter Try.func35, Try.ntmps35
    go_wp2_with (go_at_call 56; refine HF.out.mono ?_; rintro e w3 ⟨rfl, rfl⟩)
    go_ret
    exact ⟨rfl, rfl⟩

set_option maxRecDepth 100000 in
set_option maxHeartbeats 3200000 in
/-- No such process, or an operation that may not be told. -/
theorem he_invoke_arg {w : World} {base be n : Nat} {R : HRef} {s : St} {H : HS} (h : HRep w base be R n s H) (p : Int) (o : Op3) (hno : ¬ (0 ≤ p ∧ p < n) ∨ fitsB o = false) :
    Calls Try.prog 33 #[.pointer (some ⟨be, 0, none⟩), .int .i64 p, .agg #[.int .i64 o.code, .int .i64 o.a, .int .i64 o.b]] w (HPost w base be R n s H (.int .i64 1)) := by
  have hb1 : Below w.heap.size w (w.alloc (.cells #[.int .i64 o.code, .int .i64 o.a, .int .i64 o.b] 37)) := (Below.refl _ _).alloc (Nat.le_refl _) _
  have h1 := h.keeps (F := fun _ => False) (Keeps.ofBelow hb1) (by simp)
  have hF := he_find h1 p
  have hfit := fun W => o_fits (w := W) o
  by_cases hin : 0 ≤ p ∧ p < n
  · rw [if_pos hin] at hF
    have hf0 := hno.resolve_left (fun h => h hin)
    rw [hf0] at hfit
    have HFT := fun W => Lib.hid (hfit W)
    have HF := Lib.hid hF
    have HH := Lib.hid h
    have HB1 := Lib.hid hb1
    clear hF h hno hf0 hfit h1 hb1
    go_enter Try.func33, Try.ntmps33
    go_wp2_with (first | (go_at_call 56; refine HF.out.mono ?_; rintro e w3 ⟨rfl, rfl⟩) | (go_at_call 49; refine (HFT _).out.mono ?_; rintro e w4 ⟨rfl, hb4⟩; have HB4 := Lib.hid hb4; clear hb4))
    go_ret
    exact HPost.same (HB1.out.trans (HB4.out.mono (by simp))) HH.out _
  · rw [if_neg hin] at hF
    have HF := Lib.hid hF
    have HH := Lib.hid h
    have HB1 := Lib.hid hb1
    clear hF h hno hfit h1 hb1
    go_enter Try.func33, Try.ntmps33
    go_wp2_with (go_at_call 56; refine HF.out.mono ?_; rintro e w3 ⟨rfl, rfl⟩)
    go_ret
    exact HPost.same HB1.out HH.out _

set_option maxRecDepth 100000 in
set_option maxHeartbeats 3200000 in
/-- One that has something to do. -/
theorem he_invoke_busy {w : World} {base be n p : Nat} {R : HRef} {s : St} {H : HS} (h : HRep w base be R n s H) (hp : p < n) (o : Op3) (hfo : fitsB o = true) (hb : (H.procs p).ph ≠ .idle) :
    Calls Try.prog 33 #[.pointer (some ⟨be, 0, none⟩), .int .i64 p, .agg #[.int .i64 o.code, .int .i64 o.a, .int .i64 o.b]] w (HPost w base be R n s H (.int .i64 14)) := by
  have hb1 : Below w.heap.size w (w.alloc (.cells #[.int .i64 o.code, .int .i64 o.a, .int .i64 o.b] 37)) := (Below.refl _ _).alloc (Nat.le_refl _) _
  have h1 := h.keeps (F := fun _ => False) (Keeps.ofBelow hb1) (by simp)
  have hF := he_find h1 (p : Int)
  rw [if_pos (by omega), Int.toNat_natCast] at hF
  have hfit := fun W => o_fits (w := W) o
  rw [hfo] at hfit
  have HFT := fun W => Lib.hid (hfit W)
  obtain ⟨f, hf⟩ : ∃ f, hphV (R.pa p) (H.procs p).ph = bound f (R.pa p) := by
    cases hph : (H.procs p).ph with
    | idle => exact absurd hph hb
    | announce => exact ⟨_, rfl⟩
    | lookHead => exact ⟨_, rfl⟩
    | lookPlace => exact ⟨_, rfl⟩
    | take => exact ⟨_, rfl⟩
    | ask => exact ⟨_, rfl⟩
    | offer => exact ⟨_, rfl⟩
    | check => exact ⟨_, rfl⟩
    | swap => exact ⟨_, rfl⟩
    | follow => exact ⟨_, rfl⟩
    | reckon => exact ⟨_, rfl⟩
    | number => exact ⟨_, rfl⟩
    | move => exact ⟨_, rfl⟩
    | finish => exact ⟨_, rfl⟩
  have hB1 := (h1.proc p hp).blk
  rw [hf] at hB1
  obtain ⟨ta, tb, tv, hty⟩ := stepFn
  have heq := fun (w : World) (f : Fn) (x y : Array Value) => run_neq_func w _ hty f x y
  have HF := Lib.hid hF
  have HH := Lib.hid h
  have HB1 := Lib.hid hb1
  clear hF h hfit h1 hf hb1 hty
  go_enter Try.func33, Try.ntmps33
  go_wp2_with (first | (go_at_call 56; refine HF.out.mono ?_; rintro e w3 ⟨rfl, rfl⟩) | (go_at_call 49; refine (HFT _).out.mono ?_; rintro e w4 ⟨rfl, hb4⟩; have c5 := (hB1.below hb4 hB1.lt).cell 5; have HB4 := Lib.hid hb4; clear hb4))
  go_ret
  exact HPost.same (HB1.out.trans (HB4.out.mono (by simp))) HH.out _
end Go.Proofs.Ytjfenjnnpikkdaa
