/-
  Layer 4, the document's answer: move.
-/
import Derived.Test.YtjfenjnnpikkdaaKad
import Derived.Test.YtjfenjnnpikkdaaKf
set_option linter.unusedVariables false
set_option linter.unusedSimpArgs false
namespace Go.Proofs.Ytjfenjnnpikkdaa
set_option maxRecDepth 100000
open Go.RowKit
open Go.Proofs.YtjfenjnnpikkdaaW.PrintLast

theorem hasI_cons' (k v : Int) (r : List Int) (key : Int) (h : foundB (k :: v :: r) key = true) : hasI (k :: v :: r) key = if k < key then hasI r key else v := by
  rw [hasI_cons]
  rw [foundB_cons] at h
  split
  · rfl
  · rename_i c
    rw [if_neg c] at h
    simp at h
    simp [h]
theorem pairs_found {least : Int} : ∀ (l : List Int) (last : Int), pairsGo least last l = true → l.length % 2 = 0 → ∀ key, foundB l key = true → least ≤ hasI l key
  | k :: v :: r, last, h, he, key, hf => by
    rw [pairsGo_cons] at h
    rw [hasI_cons' _ _ _ _ hf]
    rw [foundB_cons] at hf
    split
    · rename_i c
      rw [if_pos c] at hf
      exact pairs_found r k h.2 (by simp at he; omega) key hf
    · omega
  | [k], _, _, he, _, _ => by simp at he
  | [], _, _, _, _, hf => by simp [foundB_nil] at hf

theorem idx_facts {j n : Nat} (h : j + 1 < n) (hn : n ≤ 128) : IntKind.i64.wrap ((j : Int) + 1) = (j : Int) + 1 ∧ Go.RowKit.wrap64 ((j : Int) + 1) = (j : Int) + 1 ∧ (0 : Int) ≤ (j : Int) + 1 ∧ ((j : Int) + 1).toNat = j + 1 ∧ (j : Int) + 1 < (n : Int) ∧ ¬ (j : Int) < 0 ∧ (0 : Int) ≤ (j : Int) :=
  ⟨IntWalk.i64_in _ (by omega), by unfold Go.RowKit.wrap64; omega, by omega, by omega, by omega, by omega, by omega⟩
theorem wraps {x : Int} (h1 : -1099511627776 ≤ x) (h2 : x ≤ 9223372036854775807) : IntKind.i64.wrap x = x ∧ Go.RowKit.wrap64 x = x := ⟨IntWalk.i64_in _ (by omega), by unfold Go.RowKit.wrap64; omega⟩

set_option maxRecDepth 100000 in
set_option maxHeartbeats 6400000 in
theorem r_move_no {w : World} {n c : Nat} {a : Option Addr} {L : List Int} {b : Bool} {t oa ob : Int} (h : oa < 0 ∨ 65536 ≤ oa ∨ ob < 0) (HX : Hid (Rd w (.slice a n c) L)) :
    Calls Try.prog 68 #[.agg #[.int .i64 5, .slice a n c, .bool b, .int .i64 t], .agg #[.int .i64 9, .int .i64 oa, .int .i64 ob]] w (StepQ w (.slice a n c) ((⟨5, L, b, t⟩ : St), 0)) := by
  have h2 : oa < 0 ∨ (¬ oa < 0 ∧ 65535 < oa) ∨ (¬ oa < 0 ∧ ¬ 65535 < oa ∧ ob < 0) := by omega
  clear h
  rcases h2 with h | ⟨h1, h2⟩ | ⟨h1, h2, h3⟩
  all_goals
    go_enter Try.func68, Try.ntmps68
    go_wp2_with fail
    refine bodyPost_ret (v := .tuple #[.agg #[.int .i64 5, .slice a n c, .bool b, .int .i64 t], .int .i64 0]) ?_ rfl ?_
    · simp [results, Try.results68, go_sem]
    · exact StepP.weak (stepp_same HX.out (below3 w _ _ _))

set_option maxRecDepth 100000 in
set_option maxHeartbeats 6400000 in
theorem r_move_none {w : World} {n c : Nat} {a : Option Addr} {L : List Int} {b : Bool} {t oa ob f g i k hf hg : Int} (n1 : 0 ≤ oa) (n2 : oa < 65536) (n3 : 0 ≤ ob) (ef : oa / 256 = f) (eg : oa % 256 = g) (hn3 : n ≤ 128) (HX : Hid (Rd w (.slice a n c) L))
    (HA : ∀ W, Below w.heap.size w W → Hid (Calls Try.prog 65 #[.slice a n c, .int .i64 f] W fun e w' => e = .returned (.int .i64 i) ∧ w' = W))
    (HB : ∀ W, Below w.heap.size w W → Hid (Calls Try.prog 65 #[.slice a n c, .int .i64 g] W fun e w' => e = .returned (.int .i64 k) ∧ w' = W)) (hi : i = -1) :
    Calls Try.prog 68 #[.agg #[.int .i64 5, .slice a n c, .bool b, .int .i64 t], .agg #[.int .i64 9, .int .i64 oa, .int .i64 ob]] w (StepQ w (.slice a n c) ((⟨5, L, b, t⟩ : St), 0)) := by
  have m1 : ¬ oa < 0 := by omega
  have m2 : ¬ 65535 < oa := by omega
  have m3 : ¬ ob < 0 := by omega
  subst hi
  go_enter Try.func68, Try.ntmps68
  go_wp2_with fail
  refine (HA _ (below3 w _ _ _)).out.mono ?_
  rintro e w1 ⟨rfl, rfl⟩
  go_wp2_with fail
  refine (HB _ (below3 w _ _ _)).out.mono ?_
  rintro e w1 ⟨rfl, hw1⟩
  clear ef eg
  have hB1 : Below (w.heap.size + 1 + 1 + 1) (((w.alloc (.cells #[.int .i64 5, .slice a n c, .bool b, .int .i64 t] 24)).alloc (.cells #[.int .i64 9, .int .i64 oa, .int .i64 ob] 37)).alloc (.cells #[.int .i64 0, .slice none 0 0, .bool false, .int .i64 0] 24)) w1 := by rw [hw1]; exact Below.refl _ _
  clear hw1
  obtain ⟨b0, b1, b2, hz4, hb4⟩ := box_facts (k := 5) (t := t) (co := 9) (oa := oa) (ob := ob) (vl := .slice a n c) (b := b) hB1
  have hk0 : w1.cell? ⟨w.heap.size, 0, none⟩ = some (.int .i64 5) := by rw [b0.cell]; rfl
  have hk1 : w1.cell? ⟨w.heap.size, 1, none⟩ = some (.slice a n c) := by rw [b0.cell]; rfl
  have hk2 : w1.cell? ⟨w.heap.size, 2, none⟩ = some (.bool b) := by rw [b0.cell]; rfl
  have hk3 : w1.cell? ⟨w.heap.size, 3, none⟩ = some (.int .i64 t) := by rw [b0.cell]; rfl
  have ho0 : w1.cell? ⟨w.heap.size + 1, 0, none⟩ = some (.int .i64 9) := by rw [b1.cell]; rfl
  have ho1 : w1.cell? ⟨w.heap.size + 1, 1, none⟩ = some (.int .i64 oa) := by rw [b1.cell]; rfl
  have ho2 : w1.cell? ⟨w.heap.size + 1, 2, none⟩ = some (.int .i64 ob) := by rw [b1.cell]; rfl
  have hr0 : w1.cell? ⟨w.heap.size + 1 + 1, 0, none⟩ = some (.int .i64 0) := by rw [b2.cell]; rfl
  have hr1 : w1.cell? ⟨w.heap.size + 1 + 1, 1, none⟩ = some (.slice none 0 0) := by rw [b2.cell]; rfl
  have hr2 : w1.cell? ⟨w.heap.size + 1 + 1, 2, none⟩ = some (.bool false) := by rw [b2.cell]; rfl
  have hr3 : w1.cell? ⟨w.heap.size + 1 + 1, 3, none⟩ = some (.int .i64 0) := by rw [b2.cell]; rfl
  have hfz0 := b0.frozen 0
  have hfz1 := b0.frozen 1
  have hfz2 := b0.frozen 2
  have hfz3 := b0.frozen 3
  have hfr0 := b2.frozen 0
  have hfr1 := b2.frozen 1
  have hfr2 := b2.frozen 2
  have hfr3 := b2.frozen 3
  have B0 := Lib.hid b0
  have B2 := Lib.hid b2
  have HB4 := Lib.hid hb4
  clear b0 b1 b2 hb4
  have HB1 := Lib.hid hB1
  clear hB1
  go_wp2_with fail
  refine start_ (n := 13) (S := fun w' => True) (ds := []) #[false, false, false, false, false, false, false, false, false, false, false, false, false] (by kernel_rfl) rfl rfl trivial (fun hHeld => ?_)
  refine pure_ (i := 0) (N := some 40) (v := ?_) (a' := ?_) #[true, false, false, false, false, false, false, false, false, false, false, false, false] rfl rfl (by kernel_rfl) (fun _ _ _ h => h) (Or.inl ⟨by rfl, ?_⟩) ?_ ?_
  rotate_left
  · intro w'
    go_simp
    with_reducible rfl
  rotate_left
  · simp only [Act.put, nA, nB, nC, i64_w, i32_w]
    rfl
  refine pure_ (i := 1) (N := some 41) (v := ?_) (a' := ?_) #[true, true, false, false, false, false, false, false, false, false, false, false, false] rfl rfl (by kernel_rfl) (fun _ _ _ h => h) (Or.inl ⟨by rfl, ?_⟩) ?_ ?_
  rotate_left
  · intro w'
    go_simp
    with_reducible rfl
  rotate_left
  · simp only [Act.put, nA, nB, nC, i64_w, i32_w]
    rfl
  refine pure_ (i := 2) (N := some 42) (v := ?_) (a' := ?_) #[true, true, true, false, false, false, false, false, false, false, false, false, false] rfl rfl (by kernel_rfl) (fun _ _ _ h => h) (Or.inl ⟨by rfl, ?_⟩) ?_ ?_
  rotate_left
  · intro w'
    go_simp
    with_reducible rfl
  rotate_left
  · simp only [Act.put, nA, nB, nC, i64_w, i32_w]
    rfl
  refine pure_ (i := 3) (N := some 43) (v := undef) (a' := ?_) #[true, true, true, true, false, false, false, false, false, false, false, false, false] rfl rfl (by kernel_rfl) (fun _ _ _ h => h) (Or.inr ⟨by rfl, rfl⟩) ?_ ?_
  rotate_left
  · simp only [Act.put, nA, nB, nC, i64_w, i32_w]
    rfl
  refine pure_ (i := 4) (N := some 44) (v := undef) (a' := ?_) #[true, true, true, true, true, false, false, false, false, false, false, false, false] rfl rfl (by kernel_rfl) (fun _ _ _ h => h) (Or.inr ⟨by rfl, rfl⟩) ?_ ?_
  rotate_left
  · simp only [Act.put, nA, nB, nC, i64_w, i32_w]
    rfl
  refine pure_ (i := 5) (N := some 45) (v := undef) (a' := ?_) #[true, true, true, true, true, true, false, false, false, false, false, false, false] rfl rfl (by kernel_rfl) (fun _ _ _ h => h) (Or.inr ⟨by rfl, rfl⟩) ?_ ?_
  rotate_left
  · simp only [Act.put, nA, nB, nC, i64_w, i32_w]
    rfl
  refine pure_ (i := 6) (N := some 46) (v := undef) (a' := ?_) #[true, true, true, true, true, true, true, false, false, false, false, false, false] rfl rfl (by kernel_rfl) (fun _ _ _ h => h) (Or.inr ⟨by rfl, rfl⟩) ?_ ?_
  rotate_left
  · simp only [Act.put, nA, nB, nC, i64_w, i32_w]
    rfl
  refine pure_ (i := 7) (N := some 47) (v := undef) (a' := ?_) #[true, true, true, true, true, true, true, true, false, false, false, false, false] rfl rfl (by kernel_rfl) (fun _ _ _ h => h) (Or.inr ⟨by rfl, rfl⟩) ?_ ?_
  rotate_left
  · simp only [Act.put, nA, nB, nC, i64_w, i32_w]
    rfl
  refine pure_ (i := 8) (N := some 48) (v := undef) (a' := ?_) #[true, true, true, true, true, true, true, true, true, false, false, false, false] rfl rfl (by kernel_rfl) (fun _ _ _ h => h) (Or.inr ⟨by rfl, rfl⟩) ?_ ?_
  rotate_left
  · simp only [Act.put, nA, nB, nC, i64_w, i32_w]
    rfl
  refine pure_ (i := 9) (N := some 49) (v := undef) (a' := ?_) #[true, true, true, true, true, true, true, true, true, true, false, false, false] rfl rfl (by kernel_rfl) (fun _ _ _ h => h) (Or.inr ⟨by rfl, rfl⟩) ?_ ?_
  rotate_left
  · simp only [Act.put, nA, nB, nC, i64_w, i32_w]
    rfl
  refine pure_ (i := 10) (N := some 50) (v := undef) (a' := ?_) #[true, true, true, true, true, true, true, true, true, true, true, false, false] rfl rfl (by kernel_rfl) (fun _ _ _ h => h) (Or.inr ⟨by rfl, rfl⟩) ?_ ?_
  rotate_left
  · simp only [Act.put, nA, nB, nC, i64_w, i32_w]
    rfl
  refine pure_ (i := 11) (N := some 51) (v := undef) (a' := ?_) #[true, true, true, true, true, true, true, true, true, true, true, true, false] rfl rfl (by kernel_rfl) (fun _ _ _ h => h) (Or.inr ⟨by rfl, rfl⟩) ?_ ?_
  rotate_left
  · simp only [Act.put, nA, nB, nC, i64_w, i32_w]
    rfl
  refine pure_ (i := 12) (N := some 52) (v := ?_) (a' := ?_) #[true, true, true, true, true, true, true, true, true, true, true, true, true] rfl rfl (by kernel_rfl) (fun _ _ _ h => h) (Or.inl ⟨by rfl, ?_⟩) ?_ ?_
  rotate_left
  · intro w'
    go_simp
    with_reducible rfl
  rotate_left
  · simp only [Act.put, nA, nB, nC, i64_w, i32_w]
    rfl
  try clear hHeld
  refine done_ (by kernel_rfl) ?_
  go_wp2_with fail
  refine bodyPost_ret (v := .tuple #[.agg #[.int .i64 5, .slice a n c, .bool b, .int .i64 t], .int .i64 0]) ?_ rfl ?_
  · simp [results, Try.results68, go_sem, hr0, hr1, hr2, hr3]
  · refine StepP.weak (stepp_same HX.out ?_)
    exact below_res HB4.out.drew _ (by omega) _ _ _ _

set_option maxRecDepth 100000 in
set_option maxHeartbeats 6400000 in
theorem r_move_less {w : World} {n c : Nat} {a : Option Addr} {L : List Int} {b : Bool} {t oa ob f g i k hf hg : Int} (n1 : 0 ≤ oa) (n2 : oa < 65536) (n3 : 0 ≤ ob) (ef : oa / 256 = f) (eg : oa % 256 = g) (hn3 : n ≤ 128) (HX : Hid (Rd w (.slice a n c) L))
    (HA : ∀ W, Below w.heap.size w W → Hid (Calls Try.prog 65 #[.slice a n c, .int .i64 f] W fun e w' => e = .returned (.int .i64 i) ∧ w' = W))
    (HB : ∀ W, Below w.heap.size w W → Hid (Calls Try.prog 65 #[.slice a n c, .int .i64 g] W fun e w' => e = .returned (.int .i64 k) ∧ w' = W)) {j bb oo : Nat} (hi : i = (j : Int)) (hj : j + 1 < n) (ha : a = some ⟨bb, oo, none⟩) (hb : bb < w.heap.size) (hc : w.cell? ⟨bb, oo + (j + 1), none⟩ = some (.int .i64 hf)) (hfm : hf ≤ 1099511627776) (hl : hf < ob) :
    Calls Try.prog 68 #[.agg #[.int .i64 5, .slice a n c, .bool b, .int .i64 t], .agg #[.int .i64 9, .int .i64 oa, .int .i64 ob]] w (StepQ w (.slice a n c) ((⟨5, L, b, t⟩ : St), 0)) := by
  have m1 : ¬ oa < 0 := by omega
  have m2 : ¬ 65535 < oa := by omega
  have m3 : ¬ ob < 0 := by omega
  subst hi
  subst ha
  go_enter Try.func68, Try.ntmps68
  go_wp2_with fail
  refine (HA _ (below3 w _ _ _)).out.mono ?_
  rintro e w1 ⟨rfl, rfl⟩
  go_wp2_with fail
  refine (HB _ (below3 w _ _ _)).out.mono ?_
  rintro e w1 ⟨rfl, hw1⟩
  clear ef eg
  have hB1 : Below (w.heap.size + 1 + 1 + 1) (((w.alloc (.cells #[.int .i64 5, .slice (some ⟨bb, oo, none⟩) n c, .bool b, .int .i64 t] 24)).alloc (.cells #[.int .i64 9, .int .i64 oa, .int .i64 ob] 37)).alloc (.cells #[.int .i64 0, .slice none 0 0, .bool false, .int .i64 0] 24)) w1 := by rw [hw1]; exact Below.refl _ _
  clear hw1
  obtain ⟨b0, b1, b2, hz4, hb4⟩ := box_facts (k := 5) (t := t) (co := 9) (oa := oa) (ob := ob) (vl := .slice (some ⟨bb, oo, none⟩) n c) (b := b) hB1
  have hk0 : w1.cell? ⟨w.heap.size, 0, none⟩ = some (.int .i64 5) := by rw [b0.cell]; rfl
  have hk1 : w1.cell? ⟨w.heap.size, 1, none⟩ = some (.slice (some ⟨bb, oo, none⟩) n c) := by rw [b0.cell]; rfl
  have hk2 : w1.cell? ⟨w.heap.size, 2, none⟩ = some (.bool b) := by rw [b0.cell]; rfl
  have hk3 : w1.cell? ⟨w.heap.size, 3, none⟩ = some (.int .i64 t) := by rw [b0.cell]; rfl
  have ho0 : w1.cell? ⟨w.heap.size + 1, 0, none⟩ = some (.int .i64 9) := by rw [b1.cell]; rfl
  have ho1 : w1.cell? ⟨w.heap.size + 1, 1, none⟩ = some (.int .i64 oa) := by rw [b1.cell]; rfl
  have ho2 : w1.cell? ⟨w.heap.size + 1, 2, none⟩ = some (.int .i64 ob) := by rw [b1.cell]; rfl
  have hr0 : w1.cell? ⟨w.heap.size + 1 + 1, 0, none⟩ = some (.int .i64 0) := by rw [b2.cell]; rfl
  have hr1 : w1.cell? ⟨w.heap.size + 1 + 1, 1, none⟩ = some (.slice none 0 0) := by rw [b2.cell]; rfl
  have hr2 : w1.cell? ⟨w.heap.size + 1 + 1, 2, none⟩ = some (.bool false) := by rw [b2.cell]; rfl
  have hr3 : w1.cell? ⟨w.heap.size + 1 + 1, 3, none⟩ = some (.int .i64 0) := by rw [b2.cell]; rfl
  have hfz0 := b0.frozen 0
  have hfz1 := b0.frozen 1
  have hfz2 := b0.frozen 2
  have hfz3 := b0.frozen 3
  have hfr0 := b2.frozen 0
  have hfr1 := b2.frozen 1
  have hfr2 := b2.frozen 2
  have hfr3 := b2.frozen 3
  have B0 := Lib.hid b0
  have B2 := Lib.hid b2
  have HB4 := Lib.hid hb4
  clear b0 b1 b2 hb4
  have HB1 := Lib.hid hB1
  clear hB1
  rw [← HB4.out.cell (p := ⟨bb, oo + (j + 1), none⟩) hb] at hc
  have hbb : bb < w1.heap.size := Nat.lt_of_lt_of_le hb HB4.out.size
  go_wp2_with fail
  obtain ⟨xj1, xj2, xj3, xj4, xj5, xj6, xj7⟩ := idx_facts (j := j) (n := n) (by assumption) hn3
  refine start_ (n := 13) (S := fun w' => w'.cell? ⟨w.heap.size, 1, none⟩ = some (.slice (some ⟨bb, oo, none⟩) n c) ∧ w'.cell? ⟨w.heap.size + 1, 2, none⟩ = some (.int .i64 ob) ∧ w'.cell? ⟨bb, oo + (j + 1), none⟩ = some (.int .i64 hf)) (ds := []) #[false, false, false, false, false, false, false, false, false, false, false, false, false] (by kernel_rfl) rfl rfl ⟨hk1, ho2, hc⟩ (fun hHeld => ?_)
  refine pure_ (i := 0) (N := some 40) (v := ?_) (a' := ?_) #[true, false, false, false, false, false, false, false, false, false, false, false, false] rfl rfl (by kernel_rfl) (fun _ _ _ h => h) (Or.inl ⟨by rfl, ?_⟩) ?_ ?_
  rotate_left
  · intro w'
    go_simp
    with_reducible rfl
  rotate_left
  · simp only [Act.put, nA, nB, nC, i64_w, i32_w]
    rfl
  refine pure_ (i := 1) (N := some 41) (v := ?_) (a' := ?_) #[true, true, false, false, false, false, false, false, false, false, false, false, false] rfl rfl (by kernel_rfl) (fun _ _ _ h => h) (Or.inl ⟨by rfl, ?_⟩) ?_ ?_
  rotate_left
  · intro w'
    go_simp
    with_reducible rfl
  rotate_left
  · simp only [Act.put, nA, nB, nC, i64_w, i32_w]
    rfl
  refine pure_ (i := 2) (N := some 42) (v := ?_) (a' := ?_) #[true, true, true, false, false, false, false, false, false, false, false, false, false] rfl rfl (by kernel_rfl) (fun _ _ _ h => h) (Or.inl ⟨by rfl, ?_⟩) ?_ ?_
  rotate_left
  · intro w'
    go_simp
    with_reducible rfl
  rotate_left
  · simp only [Act.put, nA, nB, nC, i64_w, i32_w]
    rfl
  refine pure_ (i := 3) (N := some 43) (v := ?_) (a' := ?_) #[true, true, true, true, false, false, false, false, false, false, false, false, false] rfl rfl (by kernel_rfl) (fun _ _ _ h => h) (Or.inl ⟨by rfl, ?_⟩) ?_ ?_
  rotate_left
  · intro w'
    go_simp
    with_reducible rfl
  rotate_left
  · simp only [Act.put, nA, nB, nC, i64_w, i32_w]
    rfl
  refine pure_ (i := 5) (N := some 45) (v := ?_) (a' := ?_) #[true, true, true, true, false, true, false, false, false, false, false, false, false] rfl rfl (by kernel_rfl) (fun _ _ _ h => h) (Or.inl ⟨by rfl, ?_⟩) ?_ ?_
  rotate_left
  · intro w'
    go_simp
    with_reducible rfl
  rotate_left
  · simp only [Act.put, nA, nB, nC, i64_w, i32_w]
    rfl
  refine pure_ (i := 6) (N := some 46) (v := ?_) (a' := ?_) #[true, true, true, true, false, true, true, false, false, false, false, false, false] rfl rfl (by kernel_rfl) (fun _ _ _ h => h) (Or.inl ⟨by rfl, ?_⟩) ?_ ?_
  rotate_left
  · intro w'
    go_simp
    with_reducible rfl
  rotate_left
  · simp only [Act.put, nA, nB, nC, i64_w, i32_w]
    rfl
  refine pure_ (i := 9) (N := some 49) (v := ?_) (a' := ?_) #[true, true, true, true, false, true, true, false, false, true, false, false, false] rfl rfl (by kernel_rfl) (fun _ _ _ h => h) (Or.inl ⟨by rfl, ?_⟩) ?_ ?_
  rotate_left
  · intro w'
    go_simp
    with_reducible rfl
  rotate_left
  · simp only [Act.put, nA, nB, nC, i64_w, i32_w]
    rfl
  refine take_ (i := 4) (N := some 44) (v := ?_) (a' := ?_) #[true, true, true, true, true, true, true, false, false, true, false, false, false] rfl rfl (by kernel_rfl) (fun _ _ _ h => h) (Or.inl ⟨by rfl, ?_⟩) hHeld ?_ ?_
  rotate_left
  · rintro w' ⟨s0, s1, s2⟩
    go_simp
    with_reducible rfl
  rotate_left
  · simp only [Act.put, nA, nB, nC, i64_w, i32_w]
    rfl
  refine pure_ (i := 7) (N := some 47) (v := ?_) (a' := ?_) #[true, true, true, true, true, true, true, true, false, true, false, false, false] rfl rfl (by kernel_rfl) (fun _ _ _ h => h) (Or.inl ⟨by rfl, ?_⟩) ?_ ?_
  rotate_left
  · intro w'
    go_simp
    with_reducible rfl
  rotate_left
  · simp only [Act.put, nA, nB, nC, i64_w, i32_w]
    rfl
  refine take_ (i := 8) (N := some 48) (v := ?_) (a' := ?_) #[true, true, true, true, true, true, true, true, true, true, false, false, false] rfl rfl (by kernel_rfl) (fun _ _ _ h => h) (Or.inl ⟨by rfl, ?_⟩) hHeld ?_ ?_
  rotate_left
  · rintro w' ⟨s0, s1, s2⟩
    go_simp
    with_reducible rfl
  rotate_left
  · simp only [Act.put, nA, nB, nC, i64_w, i32_w]
    rfl
  refine take_ (i := 10) (N := some 50) (v := ?_) (a' := ?_) #[true, true, true, true, true, true, true, true, true, true, true, false, false] rfl rfl (by kernel_rfl) (fun _ _ _ h => h) (Or.inl ⟨by rfl, ?_⟩) hHeld ?_ ?_
  rotate_left
  · rintro w' ⟨s0, s1, s2⟩
    go_simp
    with_reducible rfl
  rotate_left
  · simp only [Act.put, nA, nB, nC, i64_w, i32_w]
    rfl
  refine pure_ (i := 11) (N := some 51) (v := ?_) (a' := ?_) #[true, true, true, true, true, true, true, true, true, true, true, true, false] rfl rfl (by kernel_rfl) (fun _ _ _ h => h) (Or.inl ⟨by rfl, ?_⟩) ?_ ?_
  rotate_left
  · intro w'
    go_simp
    with_reducible rfl
  rotate_left
  · simp only [Act.put, nA, nB, nC, i64_w, i32_w]
    rfl
  refine pure_ (i := 12) (N := some 52) (v := ?_) (a' := ?_) #[true, true, true, true, true, true, true, true, true, true, true, true, true] rfl rfl (by kernel_rfl) (fun _ _ _ h => h) (Or.inl ⟨by rfl, ?_⟩) ?_ ?_
  rotate_left
  · intro w'
    go_simp
    with_reducible rfl
  rotate_left
  · simp only [Act.put, nA, nB, nC, i64_w, i32_w]
    rfl
  try clear hHeld
  refine done_ (by kernel_rfl) ?_
  clear xj1 xj2 xj3 xj4 xj5 xj6 xj7
  have hjj : j < n := by omega
  go_wp2_with fail
  refine bodyPost_ret (v := .tuple #[.agg #[.int .i64 5, .slice (some ⟨bb, oo, none⟩) n c, .bool b, .int .i64 t], .int .i64 0]) ?_ rfl ?_
  · simp [results, Try.results68, go_sem, hr0, hr1, hr2, hr3]
  · refine StepP.weak (stepp_same HX.out ?_)
    exact below_res HB4.out.drew _ (by omega) _ _ _ _

set_option maxRecDepth 100000 in
set_option maxHeartbeats 6400000 in
theorem r_move_same {w : World} {n c : Nat} {a : Option Addr} {L : List Int} {b : Bool} {t oa ob f g i k hf hg : Int} (n1 : 0 ≤ oa) (n2 : oa < 65536) (n3 : 0 ≤ ob) (ef : oa / 256 = f) (eg : oa % 256 = g) (hn3 : n ≤ 128) (HX : Hid (Rd w (.slice a n c) L))
    (HA : ∀ W, Below w.heap.size w W → Hid (Calls Try.prog 65 #[.slice a n c, .int .i64 f] W fun e w' => e = .returned (.int .i64 i) ∧ w' = W))
    (HB : ∀ W, Below w.heap.size w W → Hid (Calls Try.prog 65 #[.slice a n c, .int .i64 g] W fun e w' => e = .returned (.int .i64 k) ∧ w' = W)) {j bb oo : Nat} (hi : i = (j : Int)) (hj : j + 1 < n) (ha : a = some ⟨bb, oo, none⟩) (hb : bb < w.heap.size) (hc : w.cell? ⟨bb, oo + (j + 1), none⟩ = some (.int .i64 hf)) (hfm : hf ≤ 1099511627776) (hl : ¬ hf < ob) (hfg : g = f) :
    Calls Try.prog 68 #[.agg #[.int .i64 5, .slice a n c, .bool b, .int .i64 t], .agg #[.int .i64 9, .int .i64 oa, .int .i64 ob]] w (StepQ w (.slice a n c) ((⟨5, L, b, t⟩ : St), 1)) := by
  have m1 : ¬ oa < 0 := by omega
  have m2 : ¬ 65535 < oa := by omega
  have m3 : ¬ ob < 0 := by omega
  subst hi
  subst ha
  subst hfg
  go_enter Try.func68, Try.ntmps68
  go_wp2_with fail
  refine (HA _ (below3 w _ _ _)).out.mono ?_
  rintro e w1 ⟨rfl, rfl⟩
  go_wp2_with fail
  refine (HB _ (below3 w _ _ _)).out.mono ?_
  rintro e w1 ⟨rfl, hw1⟩
  clear ef eg
  have hB1 : Below (w.heap.size + 1 + 1 + 1) (((w.alloc (.cells #[.int .i64 5, .slice (some ⟨bb, oo, none⟩) n c, .bool b, .int .i64 t] 24)).alloc (.cells #[.int .i64 9, .int .i64 oa, .int .i64 ob] 37)).alloc (.cells #[.int .i64 0, .slice none 0 0, .bool false, .int .i64 0] 24)) w1 := by rw [hw1]; exact Below.refl _ _
  clear hw1
  obtain ⟨b0, b1, b2, hz4, hb4⟩ := box_facts (k := 5) (t := t) (co := 9) (oa := oa) (ob := ob) (vl := .slice (some ⟨bb, oo, none⟩) n c) (b := b) hB1
  have hk0 : w1.cell? ⟨w.heap.size, 0, none⟩ = some (.int .i64 5) := by rw [b0.cell]; rfl
  have hk1 : w1.cell? ⟨w.heap.size, 1, none⟩ = some (.slice (some ⟨bb, oo, none⟩) n c) := by rw [b0.cell]; rfl
  have hk2 : w1.cell? ⟨w.heap.size, 2, none⟩ = some (.bool b) := by rw [b0.cell]; rfl
  have hk3 : w1.cell? ⟨w.heap.size, 3, none⟩ = some (.int .i64 t) := by rw [b0.cell]; rfl
  have ho0 : w1.cell? ⟨w.heap.size + 1, 0, none⟩ = some (.int .i64 9) := by rw [b1.cell]; rfl
  have ho1 : w1.cell? ⟨w.heap.size + 1, 1, none⟩ = some (.int .i64 oa) := by rw [b1.cell]; rfl
  have ho2 : w1.cell? ⟨w.heap.size + 1, 2, none⟩ = some (.int .i64 ob) := by rw [b1.cell]; rfl
  have hr0 : w1.cell? ⟨w.heap.size + 1 + 1, 0, none⟩ = some (.int .i64 0) := by rw [b2.cell]; rfl
  have hr1 : w1.cell? ⟨w.heap.size + 1 + 1, 1, none⟩ = some (.slice none 0 0) := by rw [b2.cell]; rfl
  have hr2 : w1.cell? ⟨w.heap.size + 1 + 1, 2, none⟩ = some (.bool false) := by rw [b2.cell]; rfl
  have hr3 : w1.cell? ⟨w.heap.size + 1 + 1, 3, none⟩ = some (.int .i64 0) := by rw [b2.cell]; rfl
  have hfz0 := b0.frozen 0
  have hfz1 := b0.frozen 1
  have hfz2 := b0.frozen 2
  have hfz3 := b0.frozen 3
  have hfr0 := b2.frozen 0
  have hfr1 := b2.frozen 1
  have hfr2 := b2.frozen 2
  have hfr3 := b2.frozen 3
  have B0 := Lib.hid b0
  have B2 := Lib.hid b2
  have HB4 := Lib.hid hb4
  clear b0 b1 b2 hb4
  have HB1 := Lib.hid hB1
  clear hB1
  rw [← HB4.out.cell (p := ⟨bb, oo + (j + 1), none⟩) hb] at hc
  have hbb : bb < w1.heap.size := Nat.lt_of_lt_of_le hb HB4.out.size
  go_wp2_with fail
  obtain ⟨xj1, xj2, xj3, xj4, xj5, xj6, xj7⟩ := idx_facts (j := j) (n := n) (by assumption) hn3
  refine start_ (n := 13) (S := fun w' => w'.cell? ⟨w.heap.size, 1, none⟩ = some (.slice (some ⟨bb, oo, none⟩) n c) ∧ w'.cell? ⟨w.heap.size + 1, 2, none⟩ = some (.int .i64 ob) ∧ w'.cell? ⟨bb, oo + (j + 1), none⟩ = some (.int .i64 hf)) (ds := []) #[false, false, false, false, false, false, false, false, false, false, false, false, false] (by kernel_rfl) rfl rfl ⟨hk1, ho2, hc⟩ (fun hHeld => ?_)
  refine pure_ (i := 0) (N := some 40) (v := ?_) (a' := ?_) #[true, false, false, false, false, false, false, false, false, false, false, false, false] rfl rfl (by kernel_rfl) (fun _ _ _ h => h) (Or.inl ⟨by rfl, ?_⟩) ?_ ?_
  rotate_left
  · intro w'
    go_simp
    with_reducible rfl
  rotate_left
  · simp only [Act.put, nA, nB, nC, i64_w, i32_w]
    rfl
  refine pure_ (i := 1) (N := some 41) (v := ?_) (a' := ?_) #[true, true, false, false, false, false, false, false, false, false, false, false, false] rfl rfl (by kernel_rfl) (fun _ _ _ h => h) (Or.inl ⟨by rfl, ?_⟩) ?_ ?_
  rotate_left
  · intro w'
    go_simp
    with_reducible rfl
  rotate_left
  · simp only [Act.put, nA, nB, nC, i64_w, i32_w]
    rfl
  refine pure_ (i := 2) (N := some 42) (v := ?_) (a' := ?_) #[true, true, true, false, false, false, false, false, false, false, false, false, false] rfl rfl (by kernel_rfl) (fun _ _ _ h => h) (Or.inl ⟨by rfl, ?_⟩) ?_ ?_
  rotate_left
  · intro w'
    go_simp
    with_reducible rfl
  rotate_left
  · simp only [Act.put, nA, nB, nC, i64_w, i32_w]
    rfl
  refine pure_ (i := 3) (N := some 43) (v := ?_) (a' := ?_) #[true, true, true, true, false, false, false, false, false, false, false, false, false] rfl rfl (by kernel_rfl) (fun _ _ _ h => h) (Or.inl ⟨by rfl, ?_⟩) ?_ ?_
  rotate_left
  · intro w'
    go_simp
    with_reducible rfl
  rotate_left
  · simp only [Act.put, nA, nB, nC, i64_w, i32_w]
    rfl
  refine pure_ (i := 5) (N := some 45) (v := ?_) (a' := ?_) #[true, true, true, true, false, true, false, false, false, false, false, false, false] rfl rfl (by kernel_rfl) (fun _ _ _ h => h) (Or.inl ⟨by rfl, ?_⟩) ?_ ?_
  rotate_left
  · intro w'
    go_simp
    with_reducible rfl
  rotate_left
  · simp only [Act.put, nA, nB, nC, i64_w, i32_w]
    rfl
  refine pure_ (i := 6) (N := some 46) (v := ?_) (a' := ?_) #[true, true, true, true, false, true, true, false, false, false, false, false, false] rfl rfl (by kernel_rfl) (fun _ _ _ h => h) (Or.inl ⟨by rfl, ?_⟩) ?_ ?_
  rotate_left
  · intro w'
    go_simp
    with_reducible rfl
  rotate_left
  · simp only [Act.put, nA, nB, nC, i64_w, i32_w]
    rfl
  refine pure_ (i := 9) (N := some 49) (v := ?_) (a' := ?_) #[true, true, true, true, false, true, true, false, false, true, false, false, false] rfl rfl (by kernel_rfl) (fun _ _ _ h => h) (Or.inl ⟨by rfl, ?_⟩) ?_ ?_
  rotate_left
  · intro w'
    go_simp
    with_reducible rfl
  rotate_left
  · simp only [Act.put, nA, nB, nC, i64_w, i32_w]
    rfl
  refine take_ (i := 4) (N := some 44) (v := ?_) (a' := ?_) #[true, true, true, true, true, true, true, false, false, true, false, false, false] rfl rfl (by kernel_rfl) (fun _ _ _ h => h) (Or.inl ⟨by rfl, ?_⟩) hHeld ?_ ?_
  rotate_left
  · rintro w' ⟨s0, s1, s2⟩
    go_simp
    with_reducible rfl
  rotate_left
  · simp only [Act.put, nA, nB, nC, i64_w, i32_w]
    rfl
  refine pure_ (i := 7) (N := some 47) (v := ?_) (a' := ?_) #[true, true, true, true, true, true, true, true, false, true, false, false, false] rfl rfl (by kernel_rfl) (fun _ _ _ h => h) (Or.inl ⟨by rfl, ?_⟩) ?_ ?_
  rotate_left
  · intro w'
    go_simp
    with_reducible rfl
  rotate_left
  · simp only [Act.put, nA, nB, nC, i64_w, i32_w]
    rfl
  refine take_ (i := 8) (N := some 48) (v := ?_) (a' := ?_) #[true, true, true, true, true, true, true, true, true, true, false, false, false] rfl rfl (by kernel_rfl) (fun _ _ _ h => h) (Or.inl ⟨by rfl, ?_⟩) hHeld ?_ ?_
  rotate_left
  · rintro w' ⟨s0, s1, s2⟩
    go_simp
    with_reducible rfl
  rotate_left
  · simp only [Act.put, nA, nB, nC, i64_w, i32_w]
    rfl
  refine take_ (i := 10) (N := some 50) (v := ?_) (a' := ?_) #[true, true, true, true, true, true, true, true, true, true, true, false, false] rfl rfl (by kernel_rfl) (fun _ _ _ h => h) (Or.inl ⟨by rfl, ?_⟩) hHeld ?_ ?_
  rotate_left
  · rintro w' ⟨s0, s1, s2⟩
    go_simp
    with_reducible rfl
  rotate_left
  · simp only [Act.put, nA, nB, nC, i64_w, i32_w]
    rfl
  refine pure_ (i := 11) (N := some 51) (v := ?_) (a' := ?_) #[true, true, true, true, true, true, true, true, true, true, true, true, false] rfl rfl (by kernel_rfl) (fun _ _ _ h => h) (Or.inl ⟨by rfl, ?_⟩) ?_ ?_
  rotate_left
  · intro w'
    go_simp
    with_reducible rfl
  rotate_left
  · simp only [Act.put, nA, nB, nC, i64_w, i32_w]
    rfl
  refine pure_ (i := 12) (N := some 52) (v := ?_) (a' := ?_) #[true, true, true, true, true, true, true, true, true, true, true, true, true] rfl rfl (by kernel_rfl) (fun _ _ _ h => h) (Or.inl ⟨by rfl, ?_⟩) ?_ ?_
  rotate_left
  · intro w'
    go_simp
    with_reducible rfl
  rotate_left
  · simp only [Act.put, nA, nB, nC, i64_w, i32_w]
    rfl
  try clear hHeld
  refine done_ (by kernel_rfl) ?_
  clear xj1 xj2 xj3 xj4 xj5 xj6 xj7
  have hjj : j < n := by omega
  go_wp2_with fail
  refine bodyPost_ret (v := .tuple #[.agg #[.int .i64 5, .slice (some ⟨bb, oo, none⟩) n c, .bool b, .int .i64 t], .int .i64 1]) ?_ rfl ?_
  · simp [results, Try.results68, go_sem, hr0, hr1, hr2, hr3]
  · refine StepP.weak (stepp_same HX.out ?_)
    exact below_res HB4.out.drew _ (by omega) _ _ _ _

set_option maxRecDepth 100000 in
set_option maxHeartbeats 6400000 in
theorem r_move_full {w : World} {n c : Nat} {a : Option Addr} {L : List Int} {b : Bool} {t oa ob f g i k hf hg : Int} (n1 : 0 ≤ oa) (n2 : oa < 65536) (n3 : 0 ≤ ob) (ef : oa / 256 = f) (eg : oa % 256 = g) (hn3 : n ≤ 128) (HX : Hid (Rd w (.slice a n c) L))
    (HA : ∀ W, Below w.heap.size w W → Hid (Calls Try.prog 65 #[.slice a n c, .int .i64 f] W fun e w' => e = .returned (.int .i64 i) ∧ w' = W))
    (HB : ∀ W, Below w.heap.size w W → Hid (Calls Try.prog 65 #[.slice a n c, .int .i64 g] W fun e w' => e = .returned (.int .i64 k) ∧ w' = W)) {j bb oo : Nat} (hi : i = (j : Int)) (hj : j + 1 < n) (ha : a = some ⟨bb, oo, none⟩) (hb : bb < w.heap.size) (hc : w.cell? ⟨bb, oo + (j + 1), none⟩ = some (.int .i64 hf)) (hfm : hf ≤ 1099511627776) (hl : ¬ hf < ob) (hfg : (f == g) = false) (hk : k = -1) (hnn : n = 128) :
    Calls Try.prog 68 #[.agg #[.int .i64 5, .slice a n c, .bool b, .int .i64 t], .agg #[.int .i64 9, .int .i64 oa, .int .i64 ob]] w (StepQ w (.slice a n c) ((⟨5, L, b, t⟩ : St), 0)) := by
  have m1 : ¬ oa < 0 := by omega
  have m2 : ¬ 65535 < oa := by omega
  have m3 : ¬ ob < 0 := by omega
  subst hi
  subst ha
  subst hk
  have hnb : ((n : Int) == 128) = true := by clear ef eg; simp; omega
  clear hnn
  go_enter Try.func68, Try.ntmps68
  go_wp2_with fail
  refine (HA _ (below3 w _ _ _)).out.mono ?_
  rintro e w1 ⟨rfl, rfl⟩
  go_wp2_with fail
  refine (HB _ (below3 w _ _ _)).out.mono ?_
  rintro e w1 ⟨rfl, hw1⟩
  clear ef eg
  have hB1 : Below (w.heap.size + 1 + 1 + 1) (((w.alloc (.cells #[.int .i64 5, .slice (some ⟨bb, oo, none⟩) n c, .bool b, .int .i64 t] 24)).alloc (.cells #[.int .i64 9, .int .i64 oa, .int .i64 ob] 37)).alloc (.cells #[.int .i64 0, .slice none 0 0, .bool false, .int .i64 0] 24)) w1 := by rw [hw1]; exact Below.refl _ _
  clear hw1
  obtain ⟨b0, b1, b2, hz4, hb4⟩ := box_facts (k := 5) (t := t) (co := 9) (oa := oa) (ob := ob) (vl := .slice (some ⟨bb, oo, none⟩) n c) (b := b) hB1
  have hk0 : w1.cell? ⟨w.heap.size, 0, none⟩ = some (.int .i64 5) := by rw [b0.cell]; rfl
  have hk1 : w1.cell? ⟨w.heap.size, 1, none⟩ = some (.slice (some ⟨bb, oo, none⟩) n c) := by rw [b0.cell]; rfl
  have hk2 : w1.cell? ⟨w.heap.size, 2, none⟩ = some (.bool b) := by rw [b0.cell]; rfl
  have hk3 : w1.cell? ⟨w.heap.size, 3, none⟩ = some (.int .i64 t) := by rw [b0.cell]; rfl
  have ho0 : w1.cell? ⟨w.heap.size + 1, 0, none⟩ = some (.int .i64 9) := by rw [b1.cell]; rfl
  have ho1 : w1.cell? ⟨w.heap.size + 1, 1, none⟩ = some (.int .i64 oa) := by rw [b1.cell]; rfl
  have ho2 : w1.cell? ⟨w.heap.size + 1, 2, none⟩ = some (.int .i64 ob) := by rw [b1.cell]; rfl
  have hr0 : w1.cell? ⟨w.heap.size + 1 + 1, 0, none⟩ = some (.int .i64 0) := by rw [b2.cell]; rfl
  have hr1 : w1.cell? ⟨w.heap.size + 1 + 1, 1, none⟩ = some (.slice none 0 0) := by rw [b2.cell]; rfl
  have hr2 : w1.cell? ⟨w.heap.size + 1 + 1, 2, none⟩ = some (.bool false) := by rw [b2.cell]; rfl
  have hr3 : w1.cell? ⟨w.heap.size + 1 + 1, 3, none⟩ = some (.int .i64 0) := by rw [b2.cell]; rfl
  have hfz0 := b0.frozen 0
  have hfz1 := b0.frozen 1
  have hfz2 := b0.frozen 2
  have hfz3 := b0.frozen 3
  have hfr0 := b2.frozen 0
  have hfr1 := b2.frozen 1
  have hfr2 := b2.frozen 2
  have hfr3 := b2.frozen 3
  have B0 := Lib.hid b0
  have B2 := Lib.hid b2
  have HB4 := Lib.hid hb4
  clear b0 b1 b2 hb4
  have HB1 := Lib.hid hB1
  clear hB1
  rw [← HB4.out.cell (p := ⟨bb, oo + (j + 1), none⟩) hb] at hc
  have hbb : bb < w1.heap.size := Nat.lt_of_lt_of_le hb HB4.out.size
  go_wp2_with fail
  obtain ⟨xj1, xj2, xj3, xj4, xj5, xj6, xj7⟩ := idx_facts (j := j) (n := n) (by assumption) hn3
  refine start_ (n := 13) (S := fun w' => w'.cell? ⟨w.heap.size, 1, none⟩ = some (.slice (some ⟨bb, oo, none⟩) n c) ∧ w'.cell? ⟨w.heap.size + 1, 2, none⟩ = some (.int .i64 ob) ∧ w'.cell? ⟨bb, oo + (j + 1), none⟩ = some (.int .i64 hf)) (ds := []) #[false, false, false, false, false, false, false, false, false, false, false, false, false] (by kernel_rfl) rfl rfl ⟨hk1, ho2, hc⟩ (fun hHeld => ?_)
  refine pure_ (i := 0) (N := some 40) (v := ?_) (a' := ?_) #[true, false, false, false, false, false, false, false, false, false, false, false, false] rfl rfl (by kernel_rfl) (fun _ _ _ h => h) (Or.inl ⟨by rfl, ?_⟩) ?_ ?_
  rotate_left
  · intro w'
    go_simp
    with_reducible rfl
  rotate_left
  · simp only [Act.put, nA, nB, nC, i64_w, i32_w]
    rfl
  refine pure_ (i := 1) (N := some 41) (v := ?_) (a' := ?_) #[true, true, false, false, false, false, false, false, false, false, false, false, false] rfl rfl (by kernel_rfl) (fun _ _ _ h => h) (Or.inl ⟨by rfl, ?_⟩) ?_ ?_
  rotate_left
  · intro w'
    go_simp
    with_reducible rfl
  rotate_left
  · simp only [Act.put, nA, nB, nC, i64_w, i32_w]
    rfl
  refine pure_ (i := 2) (N := some 42) (v := ?_) (a' := ?_) #[true, true, true, false, false, false, false, false, false, false, false, false, false] rfl rfl (by kernel_rfl) (fun _ _ _ h => h) (Or.inl ⟨by rfl, ?_⟩) ?_ ?_
  rotate_left
  · intro w'
    go_simp
    with_reducible rfl
  rotate_left
  · simp only [Act.put, nA, nB, nC, i64_w, i32_w]
    rfl
  refine pure_ (i := 3) (N := some 43) (v := ?_) (a' := ?_) #[true, true, true, true, false, false, false, false, false, false, false, false, false] rfl rfl (by kernel_rfl) (fun _ _ _ h => h) (Or.inl ⟨by rfl, ?_⟩) ?_ ?_
  rotate_left
  · intro w'
    go_simp
    with_reducible rfl
  rotate_left
  · simp only [Act.put, nA, nB, nC, i64_w, i32_w]
    rfl
  refine pure_ (i := 5) (N := some 45) (v := ?_) (a' := ?_) #[true, true, true, true, false, true, false, false, false, false, false, false, false] rfl rfl (by kernel_rfl) (fun _ _ _ h => h) (Or.inl ⟨by rfl, ?_⟩) ?_ ?_
  rotate_left
  · intro w'
    go_simp
    with_reducible rfl
  rotate_left
  · simp only [Act.put, nA, nB, nC, i64_w, i32_w]
    rfl
  refine pure_ (i := 6) (N := some 46) (v := ?_) (a' := ?_) #[true, true, true, true, false, true, true, false, false, false, false, false, false] rfl rfl (by kernel_rfl) (fun _ _ _ h => h) (Or.inl ⟨by rfl, ?_⟩) ?_ ?_
  rotate_left
  · intro w'
    go_simp
    with_reducible rfl
  rotate_left
  · simp only [Act.put, nA, nB, nC, i64_w, i32_w]
    rfl
  refine pure_ (i := 9) (N := some 49) (v := ?_) (a' := ?_) #[true, true, true, true, false, true, true, false, false, true, false, false, false] rfl rfl (by kernel_rfl) (fun _ _ _ h => h) (Or.inl ⟨by rfl, ?_⟩) ?_ ?_
  rotate_left
  · intro w'
    go_simp
    with_reducible rfl
  rotate_left
  · simp only [Act.put, nA, nB, nC, i64_w, i32_w]
    rfl
  refine take_ (i := 4) (N := some 44) (v := ?_) (a' := ?_) #[true, true, true, true, true, true, true, false, false, true, false, false, false] rfl rfl (by kernel_rfl) (fun _ _ _ h => h) (Or.inl ⟨by rfl, ?_⟩) hHeld ?_ ?_
  rotate_left
  · rintro w' ⟨s0, s1, s2⟩
    go_simp
    with_reducible rfl
  rotate_left
  · simp only [Act.put, nA, nB, nC, i64_w, i32_w]
    rfl
  refine pure_ (i := 7) (N := some 47) (v := ?_) (a' := ?_) #[true, true, true, true, true, true, true, true, false, true, false, false, false] rfl rfl (by kernel_rfl) (fun _ _ _ h => h) (Or.inl ⟨by rfl, ?_⟩) ?_ ?_
  rotate_left
  · intro w'
    go_simp
    with_reducible rfl
  rotate_left
  · simp only [Act.put, nA, nB, nC, i64_w, i32_w]
    rfl
  refine take_ (i := 8) (N := some 48) (v := ?_) (a' := ?_) #[true, true, true, true, true, true, true, true, true, true, false, false, false] rfl rfl (by kernel_rfl) (fun _ _ _ h => h) (Or.inl ⟨by rfl, ?_⟩) hHeld ?_ ?_
  rotate_left
  · rintro w' ⟨s0, s1, s2⟩
    go_simp
    with_reducible rfl
  rotate_left
  · simp only [Act.put, nA, nB, nC, i64_w, i32_w]
    rfl
  refine take_ (i := 10) (N := some 50) (v := ?_) (a' := ?_) #[true, true, true, true, true, true, true, true, true, true, true, false, false] rfl rfl (by kernel_rfl) (fun _ _ _ h => h) (Or.inl ⟨by rfl, ?_⟩) hHeld ?_ ?_
  rotate_left
  · rintro w' ⟨s0, s1, s2⟩
    go_simp
    with_reducible rfl
  rotate_left
  · simp only [Act.put, nA, nB, nC, i64_w, i32_w]
    rfl
  refine pure_ (i := 11) (N := some 51) (v := ?_) (a' := ?_) #[true, true, true, true, true, true, true, true, true, true, true, true, false] rfl rfl (by kernel_rfl) (fun _ _ _ h => h) (Or.inl ⟨by rfl, ?_⟩) ?_ ?_
  rotate_left
  · intro w'
    go_simp
    with_reducible rfl
  rotate_left
  · simp only [Act.put, nA, nB, nC, i64_w, i32_w]
    rfl
  refine pure_ (i := 12) (N := some 52) (v := ?_) (a' := ?_) #[true, true, true, true, true, true, true, true, true, true, true, true, true] rfl rfl (by kernel_rfl) (fun _ _ _ h => h) (Or.inl ⟨by rfl, ?_⟩) ?_ ?_
  rotate_left
  · intro w'
    go_simp
    with_reducible rfl
  rotate_left
  · simp only [Act.put, nA, nB, nC, i64_w, i32_w]
    rfl
  try clear hHeld
  refine done_ (by kernel_rfl) ?_
  clear xj1 xj2 xj3 xj4 xj5 xj6 xj7
  have hjj : j < n := by omega
  go_wp2_with fail
  refine bodyPost_ret (v := .tuple #[.agg #[.int .i64 5, .slice (some ⟨bb, oo, none⟩) n c, .bool b, .int .i64 t], .int .i64 0]) ?_ rfl ?_
  · simp [results, Try.results68, go_sem, hr0, hr1, hr2, hr3]
  · refine StepP.weak (stepp_same HX.out ?_)
    exact below_res HB4.out.drew _ (by omega) _ _ _ _

set_option maxRecDepth 100000 in
set_option maxHeartbeats 6400000 in
theorem r_move_over {w : World} {n c : Nat} {a : Option Addr} {L : List Int} {b : Bool} {t oa ob f g i k hf hg : Int} (n1 : 0 ≤ oa) (n2 : oa < 65536) (n3 : 0 ≤ ob) (ef : oa / 256 = f) (eg : oa % 256 = g) (hn3 : n ≤ 128) (HX : Hid (Rd w (.slice a n c) L))
    (HA : ∀ W, Below w.heap.size w W → Hid (Calls Try.prog 65 #[.slice a n c, .int .i64 f] W fun e w' => e = .returned (.int .i64 i) ∧ w' = W))
    (HB : ∀ W, Below w.heap.size w W → Hid (Calls Try.prog 65 #[.slice a n c, .int .i64 g] W fun e w' => e = .returned (.int .i64 k) ∧ w' = W)) {j bb oo : Nat} (hi : i = (j : Int)) (hj : j + 1 < n) (ha : a = some ⟨bb, oo, none⟩) (hb : bb < w.heap.size) (hc : w.cell? ⟨bb, oo + (j + 1), none⟩ = some (.int .i64 hf)) (hfm : hf ≤ 1099511627776) (hl : ¬ hf < ob) (hfg : (f == g) = false) {j2 : Nat} (hk : k = (j2 : Int)) (hj2 : j2 + 1 < n) (hc2 : w.cell? ⟨bb, oo + (j2 + 1), none⟩ = some (.int .i64 hg)) (hg0 : 0 ≤ hg) (hgm : hg ≤ 1099511627776) (hov : 1099511627776 < hg + ob) :
    Calls Try.prog 68 #[.agg #[.int .i64 5, .slice a n c, .bool b, .int .i64 t], .agg #[.int .i64 9, .int .i64 oa, .int .i64 ob]] w (StepQ w (.slice a n c) ((⟨5, L, b, t⟩ : St), 0)) := by
  have m1 : ¬ oa < 0 := by omega
  have m2 : ¬ 65535 < oa := by omega
  have m3 : ¬ ob < 0 := by omega
  subst hi
  subst ha
  subst hk
  have y1 : IntKind.i64.wrap (hg + ob) = hg + ob := (wraps (by clear ef eg; omega) (by clear ef eg; omega)).1
  go_enter Try.func68, Try.ntmps68
  go_wp2_with fail
  refine (HA _ (below3 w _ _ _)).out.mono ?_
  rintro e w1 ⟨rfl, rfl⟩
  go_wp2_with fail
  refine (HB _ (below3 w _ _ _)).out.mono ?_
  rintro e w1 ⟨rfl, hw1⟩
  clear ef eg
  have hB1 : Below (w.heap.size + 1 + 1 + 1) (((w.alloc (.cells #[.int .i64 5, .slice (some ⟨bb, oo, none⟩) n c, .bool b, .int .i64 t] 24)).alloc (.cells #[.int .i64 9, .int .i64 oa, .int .i64 ob] 37)).alloc (.cells #[.int .i64 0, .slice none 0 0, .bool false, .int .i64 0] 24)) w1 := by rw [hw1]; exact Below.refl _ _
  clear hw1
  obtain ⟨b0, b1, b2, hz4, hb4⟩ := box_facts (k := 5) (t := t) (co := 9) (oa := oa) (ob := ob) (vl := .slice (some ⟨bb, oo, none⟩) n c) (b := b) hB1
  have hk0 : w1.cell? ⟨w.heap.size, 0, none⟩ = some (.int .i64 5) := by rw [b0.cell]; rfl
  have hk1 : w1.cell? ⟨w.heap.size, 1, none⟩ = some (.slice (some ⟨bb, oo, none⟩) n c) := by rw [b0.cell]; rfl
  have hk2 : w1.cell? ⟨w.heap.size, 2, none⟩ = some (.bool b) := by rw [b0.cell]; rfl
  have hk3 : w1.cell? ⟨w.heap.size, 3, none⟩ = some (.int .i64 t) := by rw [b0.cell]; rfl
  have ho0 : w1.cell? ⟨w.heap.size + 1, 0, none⟩ = some (.int .i64 9) := by rw [b1.cell]; rfl
  have ho1 : w1.cell? ⟨w.heap.size + 1, 1, none⟩ = some (.int .i64 oa) := by rw [b1.cell]; rfl
  have ho2 : w1.cell? ⟨w.heap.size + 1, 2, none⟩ = some (.int .i64 ob) := by rw [b1.cell]; rfl
  have hr0 : w1.cell? ⟨w.heap.size + 1 + 1, 0, none⟩ = some (.int .i64 0) := by rw [b2.cell]; rfl
  have hr1 : w1.cell? ⟨w.heap.size + 1 + 1, 1, none⟩ = some (.slice none 0 0) := by rw [b2.cell]; rfl
  have hr2 : w1.cell? ⟨w.heap.size + 1 + 1, 2, none⟩ = some (.bool false) := by rw [b2.cell]; rfl
  have hr3 : w1.cell? ⟨w.heap.size + 1 + 1, 3, none⟩ = some (.int .i64 0) := by rw [b2.cell]; rfl
  have hfz0 := b0.frozen 0
  have hfz1 := b0.frozen 1
  have hfz2 := b0.frozen 2
  have hfz3 := b0.frozen 3
  have hfr0 := b2.frozen 0
  have hfr1 := b2.frozen 1
  have hfr2 := b2.frozen 2
  have hfr3 := b2.frozen 3
  have B0 := Lib.hid b0
  have B2 := Lib.hid b2
  have HB4 := Lib.hid hb4
  clear b0 b1 b2 hb4
  have HB1 := Lib.hid hB1
  clear hB1
  rw [← HB4.out.cell (p := ⟨bb, oo + (j + 1), none⟩) hb] at hc
  have hbb : bb < w1.heap.size := Nat.lt_of_lt_of_le hb HB4.out.size
  rw [← HB4.out.cell (p := ⟨bb, oo + (j2 + 1), none⟩) hb] at hc2
  go_wp2_with fail
  obtain ⟨xj1, xj2, xj3, xj4, xj5, xj6, xj7⟩ := idx_facts (j := j) (n := n) (by assumption) hn3
  refine start_ (n := 13) (S := fun w' => w'.cell? ⟨w.heap.size, 1, none⟩ = some (.slice (some ⟨bb, oo, none⟩) n c) ∧ w'.cell? ⟨w.heap.size + 1, 2, none⟩ = some (.int .i64 ob) ∧ w'.cell? ⟨bb, oo + (j + 1), none⟩ = some (.int .i64 hf)) (ds := []) #[false, false, false, false, false, false, false, false, false, false, false, false, false] (by kernel_rfl) rfl rfl ⟨hk1, ho2, hc⟩ (fun hHeld => ?_)
  refine pure_ (i := 0) (N := some 40) (v := ?_) (a' := ?_) #[true, false, false, false, false, false, false, false, false, false, false, false, false] rfl rfl (by kernel_rfl) (fun _ _ _ h => h) (Or.inl ⟨by rfl, ?_⟩) ?_ ?_
  rotate_left
  · intro w'
    go_simp
    with_reducible rfl
  rotate_left
  · simp only [Act.put, nA, nB, nC, i64_w, i32_w]
    rfl
  refine pure_ (i := 1) (N := some 41) (v := ?_) (a' := ?_) #[true, true, false, false, false, false, false, false, false, false, false, false, false] rfl rfl (by kernel_rfl) (fun _ _ _ h => h) (Or.inl ⟨by rfl, ?_⟩) ?_ ?_
  rotate_left
  · intro w'
    go_simp
    with_reducible rfl
  rotate_left
  · simp only [Act.put, nA, nB, nC, i64_w, i32_w]
    rfl
  refine pure_ (i := 2) (N := some 42) (v := ?_) (a' := ?_) #[true, true, true, false, false, false, false, false, false, false, false, false, false] rfl rfl (by kernel_rfl) (fun _ _ _ h => h) (Or.inl ⟨by rfl, ?_⟩) ?_ ?_
  rotate_left
  · intro w'
    go_simp
    with_reducible rfl
  rotate_left
  · simp only [Act.put, nA, nB, nC, i64_w, i32_w]
    rfl
  refine pure_ (i := 3) (N := some 43) (v := ?_) (a' := ?_) #[true, true, true, true, false, false, false, false, false, false, false, false, false] rfl rfl (by kernel_rfl) (fun _ _ _ h => h) (Or.inl ⟨by rfl, ?_⟩) ?_ ?_
  rotate_left
  · intro w'
    go_simp
    with_reducible rfl
  rotate_left
  · simp only [Act.put, nA, nB, nC, i64_w, i32_w]
    rfl
  refine pure_ (i := 5) (N := some 45) (v := ?_) (a' := ?_) #[true, true, true, true, false, true, false, false, false, false, false, false, false] rfl rfl (by kernel_rfl) (fun _ _ _ h => h) (Or.inl ⟨by rfl, ?_⟩) ?_ ?_
  rotate_left
  · intro w'
    go_simp
    with_reducible rfl
  rotate_left
  · simp only [Act.put, nA, nB, nC, i64_w, i32_w]
    rfl
  refine pure_ (i := 6) (N := some 46) (v := ?_) (a' := ?_) #[true, true, true, true, false, true, true, false, false, false, false, false, false] rfl rfl (by kernel_rfl) (fun _ _ _ h => h) (Or.inl ⟨by rfl, ?_⟩) ?_ ?_
  rotate_left
  · intro w'
    go_simp
    with_reducible rfl
  rotate_left
  · simp only [Act.put, nA, nB, nC, i64_w, i32_w]
    rfl
  refine pure_ (i := 9) (N := some 49) (v := ?_) (a' := ?_) #[true, true, true, true, false, true, true, false, false, true, false, false, false] rfl rfl (by kernel_rfl) (fun _ _ _ h => h) (Or.inl ⟨by rfl, ?_⟩) ?_ ?_
  rotate_left
  · intro w'
    go_simp
    with_reducible rfl
  rotate_left
  · simp only [Act.put, nA, nB, nC, i64_w, i32_w]
    rfl
  refine take_ (i := 4) (N := some 44) (v := ?_) (a' := ?_) #[true, true, true, true, true, true, true, false, false, true, false, false, false] rfl rfl (by kernel_rfl) (fun _ _ _ h => h) (Or.inl ⟨by rfl, ?_⟩) hHeld ?_ ?_
  rotate_left
  · rintro w' ⟨s0, s1, s2⟩
    go_simp
    with_reducible rfl
  rotate_left
  · simp only [Act.put, nA, nB, nC, i64_w, i32_w]
    rfl
  refine pure_ (i := 7) (N := some 47) (v := ?_) (a' := ?_) #[true, true, true, true, true, true, true, true, false, true, false, false, false] rfl rfl (by kernel_rfl) (fun _ _ _ h => h) (Or.inl ⟨by rfl, ?_⟩) ?_ ?_
  rotate_left
  · intro w'
    go_simp
    with_reducible rfl
  rotate_left
  · simp only [Act.put, nA, nB, nC, i64_w, i32_w]
    rfl
  refine take_ (i := 8) (N := some 48) (v := ?_) (a' := ?_) #[true, true, true, true, true, true, true, true, true, true, false, false, false] rfl rfl (by kernel_rfl) (fun _ _ _ h => h) (Or.inl ⟨by rfl, ?_⟩) hHeld ?_ ?_
  rotate_left
  · rintro w' ⟨s0, s1, s2⟩
    go_simp
    with_reducible rfl
  rotate_left
  · simp only [Act.put, nA, nB, nC, i64_w, i32_w]
    rfl
  refine take_ (i := 10) (N := some 50) (v := ?_) (a' := ?_) #[true, true, true, true, true, true, true, true, true, true, true, false, false] rfl rfl (by kernel_rfl) (fun _ _ _ h => h) (Or.inl ⟨by rfl, ?_⟩) hHeld ?_ ?_
  rotate_left
  · rintro w' ⟨s0, s1, s2⟩
    go_simp
    with_reducible rfl
  rotate_left
  · simp only [Act.put, nA, nB, nC, i64_w, i32_w]
    rfl
  refine pure_ (i := 11) (N := some 51) (v := ?_) (a' := ?_) #[true, true, true, true, true, true, true, true, true, true, true, true, false] rfl rfl (by kernel_rfl) (fun _ _ _ h => h) (Or.inl ⟨by rfl, ?_⟩) ?_ ?_
  rotate_left
  · intro w'
    go_simp
    with_reducible rfl
  rotate_left
  · simp only [Act.put, nA, nB, nC, i64_w, i32_w]
    rfl
  refine pure_ (i := 12) (N := some 52) (v := ?_) (a' := ?_) #[true, true, true, true, true, true, true, true, true, true, true, true, true] rfl rfl (by kernel_rfl) (fun _ _ _ h => h) (Or.inl ⟨by rfl, ?_⟩) ?_ ?_
  rotate_left
  · intro w'
    go_simp
    with_reducible rfl
  rotate_left
  · simp only [Act.put, nA, nB, nC, i64_w, i32_w]
    rfl
  try clear hHeld
  refine done_ (by kernel_rfl) ?_
  clear xj1 xj2 xj3 xj4 xj5 xj6 xj7
  have hjj : j < n := by omega
  go_wp2_with fail
  refine bodyPost_ret (v := .tuple #[.agg #[.int .i64 5, .slice (some ⟨bb, oo, none⟩) n c, .bool b, .int .i64 t], .int .i64 0]) ?_ rfl ?_
  · simp [results, Try.results68, go_sem, hr0, hr1, hr2, hr3]
  · refine StepP.weak (stepp_same HX.out ?_)
    exact below_res HB4.out.drew _ (by omega) _ _ _ _

set_option maxRecDepth 100000 in
set_option maxHeartbeats 6400000 in
theorem r_move_do0 {w : World} {n c : Nat} {a : Option Addr} {L L1 L2 : List Int} {b : Bool} {t oa ob f g i k hf hg : Int} (n1 : 0 ≤ oa) (n2 : oa < 65536) (n3 : 0 ≤ ob) (ef : oa / 256 = f) (eg : oa % 256 = g) (hn3 : n ≤ 128) (HX : Hid (Rd w (.slice a n c) L))
    (HA : ∀ W, Below w.heap.size w W → Hid (Calls Try.prog 65 #[.slice a n c, .int .i64 f] W fun e w' => e = .returned (.int .i64 i) ∧ w' = W))
    (HB : ∀ W, Below w.heap.size w W → Hid (Calls Try.prog 65 #[.slice a n c, .int .i64 g] W fun e w' => e = .returned (.int .i64 k) ∧ w' = W)) {j bb oo : Nat} (hi : i = (j : Int)) (hj : j + 1 < n) (ha : a = some ⟨bb, oo, none⟩) (hb : bb < w.heap.size) (hc : w.cell? ⟨bb, oo + (j + 1), none⟩ = some (.int .i64 hf)) (hfm : hf ≤ 1099511627776) (hl : ¬ hf < ob) (hfg : (f == g) = false) (hk : k = -1) (hnn : n ≠ 128) {y : Int} (hy : ob = y) (HW1 : ∀ W, Below w.heap.size w W → Hid (Calls Try.prog 67 #[.slice a n c, .int .i64 f, .int .i64 (hf - ob)] W (fun e w' => ∃ v', e = .returned v' ∧ OutRel W L1 v' w'))) (HW2 : ∀ W v', Rd W v' L1 → Hid (Calls Try.prog 67 #[v', .int .i64 g, .int .i64 y] W (fun e w' => ∃ v', e = .returned v' ∧ OutRel W L2 v' w'))) :
    Calls Try.prog 68 #[.agg #[.int .i64 5, .slice a n c, .bool b, .int .i64 t], .agg #[.int .i64 9, .int .i64 oa, .int .i64 ob]] w (StepQ w (.slice a n c) ((⟨5, L2, b, t⟩ : St), 1)) := by
  have m1 : ¬ oa < 0 := by omega
  have m2 : ¬ 65535 < oa := by omega
  have m3 : ¬ ob < 0 := by omega
  subst hi
  subst ha
  subst hk
  subst hy
  have hov : ¬ 1099511627776 < ob := by clear ef eg; omega
  have hnb : ((n : Int) == 128) = false := by clear ef eg; simp; omega
  clear hnn
  have y2 : IntKind.i64.wrap ob = ob := (wraps (by clear ef eg; omega) (by clear ef eg; omega)).1
  have y1 : IntKind.i64.wrap ((0 : Int) + ob) = ob := by rw [Int.zero_add]; exact y2
  obtain ⟨z2, z1⟩ := wraps (x := hf - ob) (by clear ef eg; omega) (by clear ef eg; omega)
  generalize hL1 : L1.length = ln1 at *
  generalize hL2 : L2.length = ln2 at *
  go_enter Try.func68, Try.ntmps68
  go_wp2_with fail
  refine (HA _ (below3 w _ _ _)).out.mono ?_
  rintro e w1 ⟨rfl, rfl⟩
  go_wp2_with fail
  refine (HB _ (below3 w _ _ _)).out.mono ?_
  rintro e w1 ⟨rfl, hw1⟩
  clear ef eg
  have hB1 : Below (w.heap.size + 1 + 1 + 1) (((w.alloc (.cells #[.int .i64 5, .slice (some ⟨bb, oo, none⟩) n c, .bool b, .int .i64 t] 24)).alloc (.cells #[.int .i64 9, .int .i64 oa, .int .i64 ob] 37)).alloc (.cells #[.int .i64 0, .slice none 0 0, .bool false, .int .i64 0] 24)) w1 := by rw [hw1]; exact Below.refl _ _
  clear hw1
  obtain ⟨b0, b1, b2, hz4, hb4⟩ := box_facts (k := 5) (t := t) (co := 9) (oa := oa) (ob := ob) (vl := .slice (some ⟨bb, oo, none⟩) n c) (b := b) hB1
  have hk0 : w1.cell? ⟨w.heap.size, 0, none⟩ = some (.int .i64 5) := by rw [b0.cell]; rfl
  have hk1 : w1.cell? ⟨w.heap.size, 1, none⟩ = some (.slice (some ⟨bb, oo, none⟩) n c) := by rw [b0.cell]; rfl
  have hk2 : w1.cell? ⟨w.heap.size, 2, none⟩ = some (.bool b) := by rw [b0.cell]; rfl
  have hk3 : w1.cell? ⟨w.heap.size, 3, none⟩ = some (.int .i64 t) := by rw [b0.cell]; rfl
  have ho0 : w1.cell? ⟨w.heap.size + 1, 0, none⟩ = some (.int .i64 9) := by rw [b1.cell]; rfl
  have ho1 : w1.cell? ⟨w.heap.size + 1, 1, none⟩ = some (.int .i64 oa) := by rw [b1.cell]; rfl
  have ho2 : w1.cell? ⟨w.heap.size + 1, 2, none⟩ = some (.int .i64 ob) := by rw [b1.cell]; rfl
  have hr0 : w1.cell? ⟨w.heap.size + 1 + 1, 0, none⟩ = some (.int .i64 0) := by rw [b2.cell]; rfl
  have hr1 : w1.cell? ⟨w.heap.size + 1 + 1, 1, none⟩ = some (.slice none 0 0) := by rw [b2.cell]; rfl
  have hr2 : w1.cell? ⟨w.heap.size + 1 + 1, 2, none⟩ = some (.bool false) := by rw [b2.cell]; rfl
  have hr3 : w1.cell? ⟨w.heap.size + 1 + 1, 3, none⟩ = some (.int .i64 0) := by rw [b2.cell]; rfl
  have hfz0 := b0.frozen 0
  have hfz1 := b0.frozen 1
  have hfz2 := b0.frozen 2
  have hfz3 := b0.frozen 3
  have hfr0 := b2.frozen 0
  have hfr1 := b2.frozen 1
  have hfr2 := b2.frozen 2
  have hfr3 := b2.frozen 3
  have B0 := Lib.hid b0
  have B2 := Lib.hid b2
  have HB4 := Lib.hid hb4
  clear b0 b1 b2 hb4
  have HB1 := Lib.hid hB1
  clear hB1
  rw [← HB4.out.cell (p := ⟨bb, oo + (j + 1), none⟩) hb] at hc
  have hbb : bb < w1.heap.size := Nat.lt_of_lt_of_le hb HB4.out.size
  go_wp2_with fail
  obtain ⟨xj1, xj2, xj3, xj4, xj5, xj6, xj7⟩ := idx_facts (j := j) (n := n) (by assumption) hn3
  refine start_ (n := 13) (S := fun w' => w'.cell? ⟨w.heap.size, 1, none⟩ = some (.slice (some ⟨bb, oo, none⟩) n c) ∧ w'.cell? ⟨w.heap.size + 1, 2, none⟩ = some (.int .i64 ob) ∧ w'.cell? ⟨bb, oo + (j + 1), none⟩ = some (.int .i64 hf)) (ds := []) #[false, false, false, false, false, false, false, false, false, false, false, false, false] (by kernel_rfl) rfl rfl ⟨hk1, ho2, hc⟩ (fun hHeld => ?_)
  refine pure_ (i := 0) (N := some 40) (v := ?_) (a' := ?_) #[true, false, false, false, false, false, false, false, false, false, false, false, false] rfl rfl (by kernel_rfl) (fun _ _ _ h => h) (Or.inl ⟨by rfl, ?_⟩) ?_ ?_
  rotate_left
  · intro w'
    go_simp
    with_reducible rfl
  rotate_left
  · simp only [Act.put, nA, nB, nC, i64_w, i32_w]
    rfl
  refine pure_ (i := 1) (N := some 41) (v := ?_) (a' := ?_) #[true, true, false, false, false, false, false, false, false, false, false, false, false] rfl rfl (by kernel_rfl) (fun _ _ _ h => h) (Or.inl ⟨by rfl, ?_⟩) ?_ ?_
  rotate_left
  · intro w'
    go_simp
    with_reducible rfl
  rotate_left
  · simp only [Act.put, nA, nB, nC, i64_w, i32_w]
    rfl
  refine pure_ (i := 2) (N := some 42) (v := ?_) (a' := ?_) #[true, true, true, false, false, false, false, false, false, false, false, false, false] rfl rfl (by kernel_rfl) (fun _ _ _ h => h) (Or.inl ⟨by rfl, ?_⟩) ?_ ?_
  rotate_left
  · intro w'
    go_simp
    with_reducible rfl
  rotate_left
  · simp only [Act.put, nA, nB, nC, i64_w, i32_w]
    rfl
  refine pure_ (i := 3) (N := some 43) (v := ?_) (a' := ?_) #[true, true, true, true, false, false, false, false, false, false, false, false, false] rfl rfl (by kernel_rfl) (fun _ _ _ h => h) (Or.inl ⟨by rfl, ?_⟩) ?_ ?_
  rotate_left
  · intro w'
    go_simp
    with_reducible rfl
  rotate_left
  · simp only [Act.put, nA, nB, nC, i64_w, i32_w]
    rfl
  refine pure_ (i := 5) (N := some 45) (v := ?_) (a' := ?_) #[true, true, true, true, false, true, false, false, false, false, false, false, false] rfl rfl (by kernel_rfl) (fun _ _ _ h => h) (Or.inl ⟨by rfl, ?_⟩) ?_ ?_
  rotate_left
  · intro w'
    go_simp
    with_reducible rfl
  rotate_left
  · simp only [Act.put, nA, nB, nC, i64_w, i32_w]
    rfl
  refine pure_ (i := 6) (N := some 46) (v := ?_) (a' := ?_) #[true, true, true, true, false, true, true, false, false, false, false, false, false] rfl rfl (by kernel_rfl) (fun _ _ _ h => h) (Or.inl ⟨by rfl, ?_⟩) ?_ ?_
  rotate_left
  · intro w'
    go_simp
    with_reducible rfl
  rotate_left
  · simp only [Act.put, nA, nB, nC, i64_w, i32_w]
    rfl
  refine pure_ (i := 9) (N := some 49) (v := ?_) (a' := ?_) #[true, true, true, true, false, true, true, false, false, true, false, false, false] rfl rfl (by kernel_rfl) (fun _ _ _ h => h) (Or.inl ⟨by rfl, ?_⟩) ?_ ?_
  rotate_left
  · intro w'
    go_simp
    with_reducible rfl
  rotate_left
  · simp only [Act.put, nA, nB, nC, i64_w, i32_w]
    rfl
  refine take_ (i := 4) (N := some 44) (v := ?_) (a' := ?_) #[true, true, true, true, true, true, true, false, false, true, false, false, false] rfl rfl (by kernel_rfl) (fun _ _ _ h => h) (Or.inl ⟨by rfl, ?_⟩) hHeld ?_ ?_
  rotate_left
  · rintro w' ⟨s0, s1, s2⟩
    go_simp
    with_reducible rfl
  rotate_left
  · simp only [Act.put, nA, nB, nC, i64_w, i32_w]
    rfl
  refine pure_ (i := 7) (N := some 47) (v := ?_) (a' := ?_) #[true, true, true, true, true, true, true, true, false, true, false, false, false] rfl rfl (by kernel_rfl) (fun _ _ _ h => h) (Or.inl ⟨by rfl, ?_⟩) ?_ ?_
  rotate_left
  · intro w'
    go_simp
    with_reducible rfl
  rotate_left
  · simp only [Act.put, nA, nB, nC, i64_w, i32_w]
    rfl
  refine take_ (i := 8) (N := some 48) (v := ?_) (a' := ?_) #[true, true, true, true, true, true, true, true, true, true, false, false, false] rfl rfl (by kernel_rfl) (fun _ _ _ h => h) (Or.inl ⟨by rfl, ?_⟩) hHeld ?_ ?_
  rotate_left
  · rintro w' ⟨s0, s1, s2⟩
    go_simp
    with_reducible rfl
  rotate_left
  · simp only [Act.put, nA, nB, nC, i64_w, i32_w]
    rfl
  refine take_ (i := 10) (N := some 50) (v := ?_) (a' := ?_) #[true, true, true, true, true, true, true, true, true, true, true, false, false] rfl rfl (by kernel_rfl) (fun _ _ _ h => h) (Or.inl ⟨by rfl, ?_⟩) hHeld ?_ ?_
  rotate_left
  · rintro w' ⟨s0, s1, s2⟩
    go_simp
    with_reducible rfl
  rotate_left
  · simp only [Act.put, nA, nB, nC, i64_w, i32_w]
    rfl
  refine pure_ (i := 11) (N := some 51) (v := ?_) (a' := ?_) #[true, true, true, true, true, true, true, true, true, true, true, true, false] rfl rfl (by kernel_rfl) (fun _ _ _ h => h) (Or.inl ⟨by rfl, ?_⟩) ?_ ?_
  rotate_left
  · intro w'
    go_simp
    with_reducible rfl
  rotate_left
  · simp only [Act.put, nA, nB, nC, i64_w, i32_w]
    rfl
  refine pure_ (i := 12) (N := some 52) (v := ?_) (a' := ?_) #[true, true, true, true, true, true, true, true, true, true, true, true, true] rfl rfl (by kernel_rfl) (fun _ _ _ h => h) (Or.inl ⟨by rfl, ?_⟩) ?_ ?_
  rotate_left
  · intro w'
    go_simp
    with_reducible rfl
  rotate_left
  · simp only [Act.put, nA, nB, nC, i64_w, i32_w]
    rfl
  try clear hHeld
  refine done_ (by kernel_rfl) ?_
  clear xj1 xj2 xj3 xj4 xj5 xj6 xj7
  have hjj : j < n := by omega
  go_wp2_with fail
  have hsz : w.heap.size + 1 + 1 + 1 ≤ w1.heap.size := by simpa using HB1.out.size
  have HB5 : Hid (Below w.heap.size w w1.drew.drew) := Lib.hid HB4.out.drew.drew
  obtain ⟨xj1, xj2, xj3, xj4, xj5, xj6, xj7⟩ := idx_facts (j := j) (n := n) (by assumption) hn3
  refine start_ (n := 14) (S := fun w' => w'.cell? ⟨w.heap.size, 1, none⟩ = some (.slice (some ⟨bb, oo, none⟩) n c) ∧ w'.cell? ⟨w.heap.size + 1, 2, none⟩ = some (.int .i64 ob) ∧ w'.cell? ⟨bb, oo + (j + 1), none⟩ = some (.int .i64 hf)) (ds := [12]) #[false, false, false, false, false, false, false, false, false, false, false, false, false, false] (by kernel_rfl) rfl rfl ⟨hk1, ho2, hc⟩ (fun hHeld => ?_)
  refine pure_ (i := 0) (N := some 82) (v := ?_) (a' := ?_) #[true, false, false, false, false, false, false, false, false, false, false, false, false, false] rfl rfl (by kernel_rfl) (fun _ _ _ h => h) (Or.inl ⟨by rfl, ?_⟩) ?_ ?_
  rotate_left
  · intro w'
    go_simp
    with_reducible rfl
  rotate_left
  · simp only [Act.put, nA, nB, nC, i64_w, i32_w]
    rfl
  refine pure_ (i := 2) (N := some 84) (v := ?_) (a' := ?_) #[true, false, true, false, false, false, false, false, false, false, false, false, false, false] rfl rfl (by kernel_rfl) (fun _ _ _ h => h) (Or.inl ⟨by rfl, ?_⟩) ?_ ?_
  rotate_left
  · intro w'
    go_simp
    with_reducible rfl
  rotate_left
  · simp only [Act.put, nA, nB, nC, i64_w, i32_w]
    rfl
  refine pure_ (i := 3) (N := some 85) (v := ?_) (a' := ?_) #[true, false, true, true, false, false, false, false, false, false, false, false, false, false] rfl rfl (by kernel_rfl) (fun _ _ _ h => h) (Or.inl ⟨by rfl, ?_⟩) ?_ ?_
  rotate_left
  · intro w'
    go_simp
    with_reducible rfl
  rotate_left
  · simp only [Act.put, nA, nB, nC, i64_w, i32_w]
    rfl
  refine pure_ (i := 5) (N := some 87) (v := ?_) (a' := ?_) #[true, false, true, true, false, true, false, false, false, false, false, false, false, false] rfl rfl (by kernel_rfl) (fun _ _ _ h => h) (Or.inl ⟨by rfl, ?_⟩) ?_ ?_
  rotate_left
  · intro w'
    go_simp
    with_reducible rfl
  rotate_left
  · simp only [Act.put, nA, nB, nC, i64_w, i32_w]
    rfl
  refine pure_ (i := 6) (N := some 88) (v := ?_) (a' := ?_) #[true, false, true, true, false, true, true, false, false, false, false, false, false, false] rfl rfl (by kernel_rfl) (fun _ _ _ h => h) (Or.inl ⟨by rfl, ?_⟩) ?_ ?_
  rotate_left
  · intro w'
    go_simp
    with_reducible rfl
  rotate_left
  · simp only [Act.put, nA, nB, nC, i64_w, i32_w]
    rfl
  refine pure_ (i := 9) (N := some 91) (v := ?_) (a' := ?_) #[true, false, true, true, false, true, true, false, false, true, false, false, false, false] rfl rfl (by kernel_rfl) (fun _ _ _ h => h) (Or.inl ⟨by rfl, ?_⟩) ?_ ?_
  rotate_left
  · intro w'
    go_simp
    with_reducible rfl
  rotate_left
  · simp only [Act.put, nA, nB, nC, i64_w, i32_w]
    rfl
  refine take_ (i := 1) (N := some 83) (v := ?_) (a' := ?_) #[true, true, true, true, false, true, true, false, false, true, false, false, false, false] rfl rfl (by kernel_rfl) (fun _ _ _ h => h) (Or.inl ⟨by rfl, ?_⟩) hHeld ?_ ?_
  rotate_left
  · rintro w' ⟨s0, s1, s2⟩
    go_simp
    with_reducible rfl
  rotate_left
  · simp only [Act.put, nA, nB, nC, i64_w, i32_w]
    rfl
  refine take_ (i := 4) (N := some 86) (v := ?_) (a' := ?_) #[true, true, true, true, true, true, true, false, false, true, false, false, false, false] rfl rfl (by kernel_rfl) (fun _ _ _ h => h) (Or.inl ⟨by rfl, ?_⟩) hHeld ?_ ?_
  rotate_left
  · rintro w' ⟨s0, s1, s2⟩
    go_simp
    with_reducible rfl
  rotate_left
  · simp only [Act.put, nA, nB, nC, i64_w, i32_w]
    rfl
  refine pure_ (i := 7) (N := some 89) (v := ?_) (a' := ?_) #[true, true, true, true, true, true, true, true, false, true, false, false, false, false] rfl rfl (by kernel_rfl) (fun _ _ _ h => h) (Or.inl ⟨by rfl, ?_⟩) ?_ ?_
  rotate_left
  · intro w'
    go_simp
    with_reducible rfl
  rotate_left
  · simp only [Act.put, nA, nB, nC, i64_w, i32_w]
    rfl
  refine take_ (i := 8) (N := some 90) (v := ?_) (a' := ?_) #[true, true, true, true, true, true, true, true, true, true, false, false, false, false] rfl rfl (by kernel_rfl) (fun _ _ _ h => h) (Or.inl ⟨by rfl, ?_⟩) hHeld ?_ ?_
  rotate_left
  · rintro w' ⟨s0, s1, s2⟩
    go_simp
    with_reducible rfl
  rotate_left
  · simp only [Act.put, nA, nB, nC, i64_w, i32_w]
    rfl
  refine take_ (i := 10) (N := some 92) (v := ?_) (a' := ?_) #[true, true, true, true, true, true, true, true, true, true, true, false, false, false] rfl rfl (by kernel_rfl) (fun _ _ _ h => h) (Or.inl ⟨by rfl, ?_⟩) hHeld ?_ ?_
  rotate_left
  · rintro w' ⟨s0, s1, s2⟩
    go_simp
    with_reducible rfl
  rotate_left
  · simp only [Act.put, nA, nB, nC, i64_w, i32_w]
    rfl
  refine pure_ (i := 11) (N := some 93) (v := ?_) (a' := ?_) #[true, true, true, true, true, true, true, true, true, true, true, true, false, false] rfl rfl (by kernel_rfl) (fun _ _ _ h => h) (Or.inl ⟨by rfl, ?_⟩) ?_ ?_
  rotate_left
  · intro w'
    go_simp
    with_reducible rfl
  rotate_left
  · simp only [Act.put, nA, nB, nC, i64_w, i32_w]
    rfl
  refine last_ (i := 12) (N := some 94) #[true, true, true, true, true, true, true, true, true, true, true, true, true, false] rfl rfl (by kernel_rfl) (by decide) (fun K hK => ?_)
  refine goes_ Try.func67 (by kernel_rfl) rfl #[.slice (some ⟨bb, oo, none⟩) n c, .int .i64 f, .int .i64 (hf - ob)] (by rfl) rfl rfl (by simp only [List.map_toArray, List.map_cons, List.map_nil]; rfl) ?_
  with_reducible refine ((HW1 _ HB5.out).out).mono ?_
  rintro e w2 ⟨v2, rfl, hb2, hfr, hown⟩
  refine ⟨_, rfl, ?_⟩
  rw [hL1] at hown
  have hrd2 := own_rd hown
  obtain ⟨a2, c2, rfl⟩ := own_shape hown
  try clear hHeld
  refine hK.out _ _ ?_
  clear hK K
  refine norm_ (a' := ?_) ?_ ?_
  rotate_left
  · show Act.put _ (some 94) _ = _
    simp only [Act.put, nA, nB, nC, i64_w, i32_w]
    rfl
  refine pure_ (i := 13) (N := some 11) (v := ?_) (a' := ?_) #[true, true, true, true, true, true, true, true, true, true, true, true, true, true] rfl rfl (by kernel_rfl) (fun _ _ _ h => h) (Or.inl ⟨by rfl, ?_⟩) ?_ ?_
  rotate_left
  · intro w'
    go_simp
    with_reducible rfl
  rotate_left
  · simp only [Act.put, nA, nB, nC, i64_w, i32_w]
    rfl
  try clear hHeld
  refine done_ (by kernel_rfl) ?_
  clear xj1 xj2 xj3 xj4 xj5 xj6 xj7
  clear hk0 hk1 hk2 hk3 ho0 ho1 ho2 hr0 hr1 hr2 hr3 hfz0 hfz1 hfz2 hfz3 hfr0 hfr1 hfr2 hfr3 hz4
  have hB2 := HB1.out.drew.drew.trans (hb2.mono (by simpa using hsz))
  clear B0 B2 HB4
  obtain ⟨b0, b1, b2, hz4, hb4⟩ := box_facts (k := 5) (t := t) (co := 9) (oa := oa) (ob := ob) (vl := .slice (some ⟨bb, oo, none⟩) n c) (b := b) hB2
  have hk0 : w2.cell? ⟨w.heap.size, 0, none⟩ = some (.int .i64 5) := by rw [b0.cell]; rfl
  have hk1 : w2.cell? ⟨w.heap.size, 1, none⟩ = some (.slice (some ⟨bb, oo, none⟩) n c) := by rw [b0.cell]; rfl
  have hk2 : w2.cell? ⟨w.heap.size, 2, none⟩ = some (.bool b) := by rw [b0.cell]; rfl
  have hk3 : w2.cell? ⟨w.heap.size, 3, none⟩ = some (.int .i64 t) := by rw [b0.cell]; rfl
  have ho0 : w2.cell? ⟨w.heap.size + 1, 0, none⟩ = some (.int .i64 9) := by rw [b1.cell]; rfl
  have ho1 : w2.cell? ⟨w.heap.size + 1, 1, none⟩ = some (.int .i64 oa) := by rw [b1.cell]; rfl
  have ho2 : w2.cell? ⟨w.heap.size + 1, 2, none⟩ = some (.int .i64 ob) := by rw [b1.cell]; rfl
  have hr0 : w2.cell? ⟨w.heap.size + 1 + 1, 0, none⟩ = some (.int .i64 0) := by rw [b2.cell]; rfl
  have hr1 : w2.cell? ⟨w.heap.size + 1 + 1, 1, none⟩ = some (.slice none 0 0) := by rw [b2.cell]; rfl
  have hr2 : w2.cell? ⟨w.heap.size + 1 + 1, 2, none⟩ = some (.bool false) := by rw [b2.cell]; rfl
  have hr3 : w2.cell? ⟨w.heap.size + 1 + 1, 3, none⟩ = some (.int .i64 0) := by rw [b2.cell]; rfl
  have hfz0 := b0.frozen 0
  have hfz1 := b0.frozen 1
  have hfz2 := b0.frozen 2
  have hfz3 := b0.frozen 3
  have hfr0 := b2.frozen 0
  have hfr1 := b2.frozen 1
  have hfr2 := b2.frozen 2
  have hfr3 := b2.frozen 3
  have B0 := Lib.hid b0
  have B2 := Lib.hid b2
  have HB4 := Lib.hid hb4
  clear b0 b1 b2 hb4
  have HB2 := Lib.hid hB2
  have hsz2 := hB2.size
  clear hB2 hb2 hown hfr z1 z2 hsz hc hb hbb hfm hl hfg hj hjj n1 n2 n3 m1 m2 m3 hL1 hn3 HA HB HW1 HB5 HB1
  have HSZ := Lib.hid hsz2
  clear hsz2 hov hnb
  go_wp2_with fail
  refine (HW2 _ _ hrd2).out.mono ?_
  rintro e w3 ⟨v3, rfl, hb3, hfr, hown⟩
  rw [hL2] at hown
  obtain ⟨a3, c3, rfl⟩ := own_shape hown
  clear hk0 hk1 hk2 hk3 ho0 ho1 ho2 hr0 hr1 hr2 hr3 hfz0 hfz1 hfz2 hfz3 hfr0 hfr1 hfr2 hfr3 B0 B2 HB4 hz4
  have hB3 := HB2.out.trans (hb3.mono (by simpa using HSZ.out))
  obtain ⟨b0, b1, b2, hz4, hb4⟩ := box_facts (k := 5) (t := t) (co := 9) (oa := oa) (ob := ob) (vl := .slice (some ⟨bb, oo, none⟩) n c) (b := b) hB3
  have hk0 : w3.cell? ⟨w.heap.size, 0, none⟩ = some (.int .i64 5) := by rw [b0.cell]; rfl
  have hk1 : w3.cell? ⟨w.heap.size, 1, none⟩ = some (.slice (some ⟨bb, oo, none⟩) n c) := by rw [b0.cell]; rfl
  have hk2 : w3.cell? ⟨w.heap.size, 2, none⟩ = some (.bool b) := by rw [b0.cell]; rfl
  have hk3 : w3.cell? ⟨w.heap.size, 3, none⟩ = some (.int .i64 t) := by rw [b0.cell]; rfl
  have ho0 : w3.cell? ⟨w.heap.size + 1, 0, none⟩ = some (.int .i64 9) := by rw [b1.cell]; rfl
  have ho1 : w3.cell? ⟨w.heap.size + 1, 1, none⟩ = some (.int .i64 oa) := by rw [b1.cell]; rfl
  have ho2 : w3.cell? ⟨w.heap.size + 1, 2, none⟩ = some (.int .i64 ob) := by rw [b1.cell]; rfl
  have hr0 : w3.cell? ⟨w.heap.size + 1 + 1, 0, none⟩ = some (.int .i64 0) := by rw [b2.cell]; rfl
  have hr1 : w3.cell? ⟨w.heap.size + 1 + 1, 1, none⟩ = some (.slice none 0 0) := by rw [b2.cell]; rfl
  have hr2 : w3.cell? ⟨w.heap.size + 1 + 1, 2, none⟩ = some (.bool false) := by rw [b2.cell]; rfl
  have hr3 : w3.cell? ⟨w.heap.size + 1 + 1, 3, none⟩ = some (.int .i64 0) := by rw [b2.cell]; rfl
  have hfz0 := b0.frozen 0
  have hfz1 := b0.frozen 1
  have hfz2 := b0.frozen 2
  have hfz3 := b0.frozen 3
  have hfr0 := b2.frozen 0
  have hfr1 := b2.frozen 1
  have hfr2 := b2.frozen 2
  have hfr3 := b2.frozen 3
  have B0 := Lib.hid b0
  have B2 := Lib.hid b2
  have HB4 := Lib.hid hb4
  clear b0 b1 b2 hb4
  have HO2 := Lib.hid hown
  have HF2 := Lib.hid (hfr.mono (by have hsz2 := HSZ.out; simp at hsz2; simp; omega : w.heap.size ≤ _))
  clear hown hfr hb3 hB3
  go_wp2_with fail
  refine bodyPost_ret (v := .tuple #[.agg #[.int .i64 5, .slice a3 ln2 c3, .bool b, .int .i64 t], .int .i64 1]) ?_ rfl ?_
  · simp [results, Try.results68, go_sem, hr0, hr1, hr2, hr3]
  · exact StepP.weak (stepp_own B0.out B2.out (sets_keeps _ _ _ _ _ _ _ _) HB4.out (Nat.le_refl _) (by omega) HO2.out HF2.out _ _ _ _)

set_option maxRecDepth 100000 in
set_option maxHeartbeats 6400000 in
theorem r_move_do {w : World} {n c : Nat} {a : Option Addr} {L L1 L2 : List Int} {b : Bool} {t oa ob f g i k hf hg : Int} (n1 : 0 ≤ oa) (n2 : oa < 65536) (n3 : 0 ≤ ob) (ef : oa / 256 = f) (eg : oa % 256 = g) (hn3 : n ≤ 128) (HX : Hid (Rd w (.slice a n c) L))
    (HA : ∀ W, Below w.heap.size w W → Hid (Calls Try.prog 65 #[.slice a n c, .int .i64 f] W fun e w' => e = .returned (.int .i64 i) ∧ w' = W))
    (HB : ∀ W, Below w.heap.size w W → Hid (Calls Try.prog 65 #[.slice a n c, .int .i64 g] W fun e w' => e = .returned (.int .i64 k) ∧ w' = W)) {j bb oo : Nat} (hi : i = (j : Int)) (hj : j + 1 < n) (ha : a = some ⟨bb, oo, none⟩) (hb : bb < w.heap.size) (hc : w.cell? ⟨bb, oo + (j + 1), none⟩ = some (.int .i64 hf)) (hfm : hf ≤ 1099511627776) (hl : ¬ hf < ob) (hfg : (f == g) = false) {j2 : Nat} (hk : k = (j2 : Int)) (hj2 : j2 + 1 < n) (hc2 : w.cell? ⟨bb, oo + (j2 + 1), none⟩ = some (.int .i64 hg)) (hg0 : 0 ≤ hg) (hgm : hg ≤ 1099511627776) (hov : ¬ 1099511627776 < hg + ob) {y : Int} (hy : hg + ob = y) (HW1 : ∀ W, Below w.heap.size w W → Hid (Calls Try.prog 67 #[.slice a n c, .int .i64 f, .int .i64 (hf - ob)] W (fun e w' => ∃ v', e = .returned v' ∧ OutRel W L1 v' w'))) (HW2 : ∀ W v', Rd W v' L1 → Hid (Calls Try.prog 67 #[v', .int .i64 g, .int .i64 y] W (fun e w' => ∃ v', e = .returned v' ∧ OutRel W L2 v' w'))) :
    Calls Try.prog 68 #[.agg #[.int .i64 5, .slice a n c, .bool b, .int .i64 t], .agg #[.int .i64 9, .int .i64 oa, .int .i64 ob]] w (StepQ w (.slice a n c) ((⟨5, L2, b, t⟩ : St), 1)) := by
  have m1 : ¬ oa < 0 := by omega
  have m2 : ¬ 65535 < oa := by omega
  have m3 : ¬ ob < 0 := by omega
  subst hi
  subst ha
  subst hk
  subst hy
  have y1 : IntKind.i64.wrap (hg + ob) = hg + ob := (wraps (by clear ef eg; omega) (by clear ef eg; omega)).1
  obtain ⟨z2, z1⟩ := wraps (x := hf - ob) (by clear ef eg; omega) (by clear ef eg; omega)
  generalize hL1 : L1.length = ln1 at *
  generalize hL2 : L2.length = ln2 at *
  go_enter Try.func68, Try.ntmps68
  go_wp2_with fail
  refine (HA _ (below3 w _ _ _)).out.mono ?_
  rintro e w1 ⟨rfl, rfl⟩
  go_wp2_with fail
  refine (HB _ (below3 w _ _ _)).out.mono ?_
  rintro e w1 ⟨rfl, hw1⟩
  clear ef eg
  have hB1 : Below (w.heap.size + 1 + 1 + 1) (((w.alloc (.cells #[.int .i64 5, .slice (some ⟨bb, oo, none⟩) n c, .bool b, .int .i64 t] 24)).alloc (.cells #[.int .i64 9, .int .i64 oa, .int .i64 ob] 37)).alloc (.cells #[.int .i64 0, .slice none 0 0, .bool false, .int .i64 0] 24)) w1 := by rw [hw1]; exact Below.refl _ _
  clear hw1
  obtain ⟨b0, b1, b2, hz4, hb4⟩ := box_facts (k := 5) (t := t) (co := 9) (oa := oa) (ob := ob) (vl := .slice (some ⟨bb, oo, none⟩) n c) (b := b) hB1
  have hk0 : w1.cell? ⟨w.heap.size, 0, none⟩ = some (.int .i64 5) := by rw [b0.cell]; rfl
  have hk1 : w1.cell? ⟨w.heap.size, 1, none⟩ = some (.slice (some ⟨bb, oo, none⟩) n c) := by rw [b0.cell]; rfl
  have hk2 : w1.cell? ⟨w.heap.size, 2, none⟩ = some (.bool b) := by rw [b0.cell]; rfl
  have hk3 : w1.cell? ⟨w.heap.size, 3, none⟩ = some (.int .i64 t) := by rw [b0.cell]; rfl
  have ho0 : w1.cell? ⟨w.heap.size + 1, 0, none⟩ = some (.int .i64 9) := by rw [b1.cell]; rfl
  have ho1 : w1.cell? ⟨w.heap.size + 1, 1, none⟩ = some (.int .i64 oa) := by rw [b1.cell]; rfl
  have ho2 : w1.cell? ⟨w.heap.size + 1, 2, none⟩ = some (.int .i64 ob) := by rw [b1.cell]; rfl
  have hr0 : w1.cell? ⟨w.heap.size + 1 + 1, 0, none⟩ = some (.int .i64 0) := by rw [b2.cell]; rfl
  have hr1 : w1.cell? ⟨w.heap.size + 1 + 1, 1, none⟩ = some (.slice none 0 0) := by rw [b2.cell]; rfl
  have hr2 : w1.cell? ⟨w.heap.size + 1 + 1, 2, none⟩ = some (.bool false) := by rw [b2.cell]; rfl
  have hr3 : w1.cell? ⟨w.heap.size + 1 + 1, 3, none⟩ = some (.int .i64 0) := by rw [b2.cell]; rfl
  have hfz0 := b0.frozen 0
  have hfz1 := b0.frozen 1
  have hfz2 := b0.frozen 2
  have hfz3 := b0.frozen 3
  have hfr0 := b2.frozen 0
  have hfr1 := b2.frozen 1
  have hfr2 := b2.frozen 2
  have hfr3 := b2.frozen 3
  have B0 := Lib.hid b0
  have B2 := Lib.hid b2
  have HB4 := Lib.hid hb4
  clear b0 b1 b2 hb4
  have HB1 := Lib.hid hB1
  clear hB1
  rw [← HB4.out.cell (p := ⟨bb, oo + (j + 1), none⟩) hb] at hc
  have hbb : bb < w1.heap.size := Nat.lt_of_lt_of_le hb HB4.out.size
  rw [← HB4.out.cell (p := ⟨bb, oo + (j2 + 1), none⟩) hb] at hc2
  go_wp2_with fail
  obtain ⟨xj1, xj2, xj3, xj4, xj5, xj6, xj7⟩ := idx_facts (j := j) (n := n) (by assumption) hn3
  refine start_ (n := 13) (S := fun w' => w'.cell? ⟨w.heap.size, 1, none⟩ = some (.slice (some ⟨bb, oo, none⟩) n c) ∧ w'.cell? ⟨w.heap.size + 1, 2, none⟩ = some (.int .i64 ob) ∧ w'.cell? ⟨bb, oo + (j + 1), none⟩ = some (.int .i64 hf)) (ds := []) #[false, false, false, false, false, false, false, false, false, false, false, false, false] (by kernel_rfl) rfl rfl ⟨hk1, ho2, hc⟩ (fun hHeld => ?_)
  refine pure_ (i := 0) (N := some 40) (v := ?_) (a' := ?_) #[true, false, false, false, false, false, false, false, false, false, false, false, false] rfl rfl (by kernel_rfl) (fun _ _ _ h => h) (Or.inl ⟨by rfl, ?_⟩) ?_ ?_
  rotate_left
  · intro w'
    go_simp
    with_reducible rfl
  rotate_left
  · simp only [Act.put, nA, nB, nC, i64_w, i32_w]
    rfl
  refine pure_ (i := 1) (N := some 41) (v := ?_) (a' := ?_) #[true, true, false, false, false, false, false, false, false, false, false, false, false] rfl rfl (by kernel_rfl) (fun _ _ _ h => h) (Or.inl ⟨by rfl, ?_⟩) ?_ ?_
  rotate_left
  · intro w'
    go_simp
    with_reducible rfl
  rotate_left
  · simp only [Act.put, nA, nB, nC, i64_w, i32_w]
    rfl
  refine pure_ (i := 2) (N := some 42) (v := ?_) (a' := ?_) #[true, true, true, false, false, false, false, false, false, false, false, false, false] rfl rfl (by kernel_rfl) (fun _ _ _ h => h) (Or.inl ⟨by rfl, ?_⟩) ?_ ?_
  rotate_left
  · intro w'
    go_simp
    with_reducible rfl
  rotate_left
  · simp only [Act.put, nA, nB, nC, i64_w, i32_w]
    rfl
  refine pure_ (i := 3) (N := some 43) (v := ?_) (a' := ?_) #[true, true, true, true, false, false, false, false, false, false, false, false, false] rfl rfl (by kernel_rfl) (fun _ _ _ h => h) (Or.inl ⟨by rfl, ?_⟩) ?_ ?_
  rotate_left
  · intro w'
    go_simp
    with_reducible rfl
  rotate_left
  · simp only [Act.put, nA, nB, nC, i64_w, i32_w]
    rfl
  refine pure_ (i := 5) (N := some 45) (v := ?_) (a' := ?_) #[true, true, true, true, false, true, false, false, false, false, false, false, false] rfl rfl (by kernel_rfl) (fun _ _ _ h => h) (Or.inl ⟨by rfl, ?_⟩) ?_ ?_
  rotate_left
  · intro w'
    go_simp
    with_reducible rfl
  rotate_left
  · simp only [Act.put, nA, nB, nC, i64_w, i32_w]
    rfl
  refine pure_ (i := 6) (N := some 46) (v := ?_) (a' := ?_) #[true, true, true, true, false, true, true, false, false, false, false, false, false] rfl rfl (by kernel_rfl) (fun _ _ _ h => h) (Or.inl ⟨by rfl, ?_⟩) ?_ ?_
  rotate_left
  · intro w'
    go_simp
    with_reducible rfl
  rotate_left
  · simp only [Act.put, nA, nB, nC, i64_w, i32_w]
    rfl
  refine pure_ (i := 9) (N := some 49) (v := ?_) (a' := ?_) #[true, true, true, true, false, true, true, false, false, true, false, false, false] rfl rfl (by kernel_rfl) (fun _ _ _ h => h) (Or.inl ⟨by rfl, ?_⟩) ?_ ?_
  rotate_left
  · intro w'
    go_simp
    with_reducible rfl
  rotate_left
  · simp only [Act.put, nA, nB, nC, i64_w, i32_w]
    rfl
  refine take_ (i := 4) (N := some 44) (v := ?_) (a' := ?_) #[true, true, true, true, true, true, true, false, false, true, false, false, false] rfl rfl (by kernel_rfl) (fun _ _ _ h => h) (Or.inl ⟨by rfl, ?_⟩) hHeld ?_ ?_
  rotate_left
  · rintro w' ⟨s0, s1, s2⟩
    go_simp
    with_reducible rfl
  rotate_left
  · simp only [Act.put, nA, nB, nC, i64_w, i32_w]
    rfl
  refine pure_ (i := 7) (N := some 47) (v := ?_) (a' := ?_) #[true, true, true, true, true, true, true, true, false, true, false, false, false] rfl rfl (by kernel_rfl) (fun _ _ _ h => h) (Or.inl ⟨by rfl, ?_⟩) ?_ ?_
  rotate_left
  · intro w'
    go_simp
    with_reducible rfl
  rotate_left
  · simp only [Act.put, nA, nB, nC, i64_w, i32_w]
    rfl
  refine take_ (i := 8) (N := some 48) (v := ?_) (a' := ?_) #[true, true, true, true, true, true, true, true, true, true, false, false, false] rfl rfl (by kernel_rfl) (fun _ _ _ h => h) (Or.inl ⟨by rfl, ?_⟩) hHeld ?_ ?_
  rotate_left
  · rintro w' ⟨s0, s1, s2⟩
    go_simp
    with_reducible rfl
  rotate_left
  · simp only [Act.put, nA, nB, nC, i64_w, i32_w]
    rfl
  refine take_ (i := 10) (N := some 50) (v := ?_) (a' := ?_) #[true, true, true, true, true, true, true, true, true, true, true, false, false] rfl rfl (by kernel_rfl) (fun _ _ _ h => h) (Or.inl ⟨by rfl, ?_⟩) hHeld ?_ ?_
  rotate_left
  · rintro w' ⟨s0, s1, s2⟩
    go_simp
    with_reducible rfl
  rotate_left
  · simp only [Act.put, nA, nB, nC, i64_w, i32_w]
    rfl
  refine pure_ (i := 11) (N := some 51) (v := ?_) (a' := ?_) #[true, true, true, true, true, true, true, true, true, true, true, true, false] rfl rfl (by kernel_rfl) (fun _ _ _ h => h) (Or.inl ⟨by rfl, ?_⟩) ?_ ?_
  rotate_left
  · intro w'
    go_simp
    with_reducible rfl
  rotate_left
  · simp only [Act.put, nA, nB, nC, i64_w, i32_w]
    rfl
  refine pure_ (i := 12) (N := some 52) (v := ?_) (a' := ?_) #[true, true, true, true, true, true, true, true, true, true, true, true, true] rfl rfl (by kernel_rfl) (fun _ _ _ h => h) (Or.inl ⟨by rfl, ?_⟩) ?_ ?_
  rotate_left
  · intro w'
    go_simp
    with_reducible rfl
  rotate_left
  · simp only [Act.put, nA, nB, nC, i64_w, i32_w]
    rfl
  try clear hHeld
  refine done_ (by kernel_rfl) ?_
  clear xj1 xj2 xj3 xj4 xj5 xj6 xj7
  have hjj : j < n := by omega
  go_wp2_with fail
  have hsz : w.heap.size + 1 + 1 + 1 ≤ w1.heap.size := by simpa using HB1.out.size
  have HB5 : Hid (Below w.heap.size w w1.drew.drew) := Lib.hid HB4.out.drew.drew
  obtain ⟨xj1, xj2, xj3, xj4, xj5, xj6, xj7⟩ := idx_facts (j := j) (n := n) (by assumption) hn3
  refine start_ (n := 14) (S := fun w' => w'.cell? ⟨w.heap.size, 1, none⟩ = some (.slice (some ⟨bb, oo, none⟩) n c) ∧ w'.cell? ⟨w.heap.size + 1, 2, none⟩ = some (.int .i64 ob) ∧ w'.cell? ⟨bb, oo + (j + 1), none⟩ = some (.int .i64 hf)) (ds := [12]) #[false, false, false, false, false, false, false, false, false, false, false, false, false, false] (by kernel_rfl) rfl rfl ⟨hk1, ho2, hc⟩ (fun hHeld => ?_)
  refine pure_ (i := 0) (N := some 82) (v := ?_) (a' := ?_) #[true, false, false, false, false, false, false, false, false, false, false, false, false, false] rfl rfl (by kernel_rfl) (fun _ _ _ h => h) (Or.inl ⟨by rfl, ?_⟩) ?_ ?_
  rotate_left
  · intro w'
    go_simp
    with_reducible rfl
  rotate_left
  · simp only [Act.put, nA, nB, nC, i64_w, i32_w]
    rfl
  refine pure_ (i := 2) (N := some 84) (v := ?_) (a' := ?_) #[true, false, true, false, false, false, false, false, false, false, false, false, false, false] rfl rfl (by kernel_rfl) (fun _ _ _ h => h) (Or.inl ⟨by rfl, ?_⟩) ?_ ?_
  rotate_left
  · intro w'
    go_simp
    with_reducible rfl
  rotate_left
  · simp only [Act.put, nA, nB, nC, i64_w, i32_w]
    rfl
  refine pure_ (i := 3) (N := some 85) (v := ?_) (a' := ?_) #[true, false, true, true, false, false, false, false, false, false, false, false, false, false] rfl rfl (by kernel_rfl) (fun _ _ _ h => h) (Or.inl ⟨by rfl, ?_⟩) ?_ ?_
  rotate_left
  · intro w'
    go_simp
    with_reducible rfl
  rotate_left
  · simp only [Act.put, nA, nB, nC, i64_w, i32_w]
    rfl
  refine pure_ (i := 5) (N := some 87) (v := ?_) (a' := ?_) #[true, false, true, true, false, true, false, false, false, false, false, false, false, false] rfl rfl (by kernel_rfl) (fun _ _ _ h => h) (Or.inl ⟨by rfl, ?_⟩) ?_ ?_
  rotate_left
  · intro w'
    go_simp
    with_reducible rfl
  rotate_left
  · simp only [Act.put, nA, nB, nC, i64_w, i32_w]
    rfl
  refine pure_ (i := 6) (N := some 88) (v := ?_) (a' := ?_) #[true, false, true, true, false, true, true, false, false, false, false, false, false, false] rfl rfl (by kernel_rfl) (fun _ _ _ h => h) (Or.inl ⟨by rfl, ?_⟩) ?_ ?_
  rotate_left
  · intro w'
    go_simp
    with_reducible rfl
  rotate_left
  · simp only [Act.put, nA, nB, nC, i64_w, i32_w]
    rfl
  refine pure_ (i := 9) (N := some 91) (v := ?_) (a' := ?_) #[true, false, true, true, false, true, true, false, false, true, false, false, false, false] rfl rfl (by kernel_rfl) (fun _ _ _ h => h) (Or.inl ⟨by rfl, ?_⟩) ?_ ?_
  rotate_left
  · intro w'
    go_simp
    with_reducible rfl
  rotate_left
  · simp only [Act.put, nA, nB, nC, i64_w, i32_w]
    rfl
  refine take_ (i := 1) (N := some 83) (v := ?_) (a' := ?_) #[true, true, true, true, false, true, true, false, false, true, false, false, false, false] rfl rfl (by kernel_rfl) (fun _ _ _ h => h) (Or.inl ⟨by rfl, ?_⟩) hHeld ?_ ?_
  rotate_left
  · rintro w' ⟨s0, s1, s2⟩
    go_simp
    with_reducible rfl
  rotate_left
  · simp only [Act.put, nA, nB, nC, i64_w, i32_w]
    rfl
  refine take_ (i := 4) (N := some 86) (v := ?_) (a' := ?_) #[true, true, true, true, true, true, true, false, false, true, false, false, false, false] rfl rfl (by kernel_rfl) (fun _ _ _ h => h) (Or.inl ⟨by rfl, ?_⟩) hHeld ?_ ?_
  rotate_left
  · rintro w' ⟨s0, s1, s2⟩
    go_simp
    with_reducible rfl
  rotate_left
  · simp only [Act.put, nA, nB, nC, i64_w, i32_w]
    rfl
  refine pure_ (i := 7) (N := some 89) (v := ?_) (a' := ?_) #[true, true, true, true, true, true, true, true, false, true, false, false, false, false] rfl rfl (by kernel_rfl) (fun _ _ _ h => h) (Or.inl ⟨by rfl, ?_⟩) ?_ ?_
  rotate_left
  · intro w'
    go_simp
    with_reducible rfl
  rotate_left
  · simp only [Act.put, nA, nB, nC, i64_w, i32_w]
    rfl
  refine take_ (i := 8) (N := some 90) (v := ?_) (a' := ?_) #[true, true, true, true, true, true, true, true, true, true, false, false, false, false] rfl rfl (by kernel_rfl) (fun _ _ _ h => h) (Or.inl ⟨by rfl, ?_⟩) hHeld ?_ ?_
  rotate_left
  · rintro w' ⟨s0, s1, s2⟩
    go_simp
    with_reducible rfl
  rotate_left
  · simp only [Act.put, nA, nB, nC, i64_w, i32_w]
    rfl
  refine take_ (i := 10) (N := some 92) (v := ?_) (a' := ?_) #[true, true, true, true, true, true, true, true, true, true, true, false, false, false] rfl rfl (by kernel_rfl) (fun _ _ _ h => h) (Or.inl ⟨by rfl, ?_⟩) hHeld ?_ ?_
  rotate_left
  · rintro w' ⟨s0, s1, s2⟩
    go_simp
    with_reducible rfl
  rotate_left
  · simp only [Act.put, nA, nB, nC, i64_w, i32_w]
    rfl
  refine pure_ (i := 11) (N := some 93) (v := ?_) (a' := ?_) #[true, true, true, true, true, true, true, true, true, true, true, true, false, false] rfl rfl (by kernel_rfl) (fun _ _ _ h => h) (Or.inl ⟨by rfl, ?_⟩) ?_ ?_
  rotate_left
  · intro w'
    go_simp
    with_reducible rfl
  rotate_left
  · simp only [Act.put, nA, nB, nC, i64_w, i32_w]
    rfl
  refine last_ (i := 12) (N := some 94) #[true, true, true, true, true, true, true, true, true, true, true, true, true, false] rfl rfl (by kernel_rfl) (by decide) (fun K hK => ?_)
  refine goes_ Try.func67 (by kernel_rfl) rfl #[.slice (some ⟨bb, oo, none⟩) n c, .int .i64 f, .int .i64 (hf - ob)] (by rfl) rfl rfl (by simp only [List.map_toArray, List.map_cons, List.map_nil]; rfl) ?_
  with_reducible refine ((HW1 _ HB5.out).out).mono ?_
  rintro e w2 ⟨v2, rfl, hb2, hfr, hown⟩
  refine ⟨_, rfl, ?_⟩
  rw [hL1] at hown
  have hrd2 := own_rd hown
  obtain ⟨a2, c2, rfl⟩ := own_shape hown
  try clear hHeld
  refine hK.out _ _ ?_
  clear hK K
  refine norm_ (a' := ?_) ?_ ?_
  rotate_left
  · show Act.put _ (some 94) _ = _
    simp only [Act.put, nA, nB, nC, i64_w, i32_w]
    rfl
  refine pure_ (i := 13) (N := some 11) (v := ?_) (a' := ?_) #[true, true, true, true, true, true, true, true, true, true, true, true, true, true] rfl rfl (by kernel_rfl) (fun _ _ _ h => h) (Or.inl ⟨by rfl, ?_⟩) ?_ ?_
  rotate_left
  · intro w'
    go_simp
    with_reducible rfl
  rotate_left
  · simp only [Act.put, nA, nB, nC, i64_w, i32_w]
    rfl
  try clear hHeld
  refine done_ (by kernel_rfl) ?_
  clear xj1 xj2 xj3 xj4 xj5 xj6 xj7
  clear hk0 hk1 hk2 hk3 ho0 ho1 ho2 hr0 hr1 hr2 hr3 hfz0 hfz1 hfz2 hfz3 hfr0 hfr1 hfr2 hfr3 hz4
  have hB2 := HB1.out.drew.drew.trans (hb2.mono (by simpa using hsz))
  clear B0 B2 HB4
  obtain ⟨b0, b1, b2, hz4, hb4⟩ := box_facts (k := 5) (t := t) (co := 9) (oa := oa) (ob := ob) (vl := .slice (some ⟨bb, oo, none⟩) n c) (b := b) hB2
  have hk0 : w2.cell? ⟨w.heap.size, 0, none⟩ = some (.int .i64 5) := by rw [b0.cell]; rfl
  have hk1 : w2.cell? ⟨w.heap.size, 1, none⟩ = some (.slice (some ⟨bb, oo, none⟩) n c) := by rw [b0.cell]; rfl
  have hk2 : w2.cell? ⟨w.heap.size, 2, none⟩ = some (.bool b) := by rw [b0.cell]; rfl
  have hk3 : w2.cell? ⟨w.heap.size, 3, none⟩ = some (.int .i64 t) := by rw [b0.cell]; rfl
  have ho0 : w2.cell? ⟨w.heap.size + 1, 0, none⟩ = some (.int .i64 9) := by rw [b1.cell]; rfl
  have ho1 : w2.cell? ⟨w.heap.size + 1, 1, none⟩ = some (.int .i64 oa) := by rw [b1.cell]; rfl
  have ho2 : w2.cell? ⟨w.heap.size + 1, 2, none⟩ = some (.int .i64 ob) := by rw [b1.cell]; rfl
  have hr0 : w2.cell? ⟨w.heap.size + 1 + 1, 0, none⟩ = some (.int .i64 0) := by rw [b2.cell]; rfl
  have hr1 : w2.cell? ⟨w.heap.size + 1 + 1, 1, none⟩ = some (.slice none 0 0) := by rw [b2.cell]; rfl
  have hr2 : w2.cell? ⟨w.heap.size + 1 + 1, 2, none⟩ = some (.bool false) := by rw [b2.cell]; rfl
  have hr3 : w2.cell? ⟨w.heap.size + 1 + 1, 3, none⟩ = some (.int .i64 0) := by rw [b2.cell]; rfl
  have hfz0 := b0.frozen 0
  have hfz1 := b0.frozen 1
  have hfz2 := b0.frozen 2
  have hfz3 := b0.frozen 3
  have hfr0 := b2.frozen 0
  have hfr1 := b2.frozen 1
  have hfr2 := b2.frozen 2
  have hfr3 := b2.frozen 3
  have B0 := Lib.hid b0
  have B2 := Lib.hid b2
  have HB4 := Lib.hid hb4
  clear b0 b1 b2 hb4
  have HB2 := Lib.hid hB2
  have hsz2 := hB2.size
  clear hB2 hb2 hown hfr z1 z2 hsz hc hb hbb hfm hl hfg hj hjj n1 n2 n3 m1 m2 m3 hL1 hn3 HA HB HW1 HB5 HB1
  have HSZ := Lib.hid hsz2
  clear hsz2 hc2 hj2 hg0 hgm hov
  go_wp2_with fail
  refine (HW2 _ _ hrd2).out.mono ?_
  rintro e w3 ⟨v3, rfl, hb3, hfr, hown⟩
  rw [hL2] at hown
  obtain ⟨a3, c3, rfl⟩ := own_shape hown
  clear hk0 hk1 hk2 hk3 ho0 ho1 ho2 hr0 hr1 hr2 hr3 hfz0 hfz1 hfz2 hfz3 hfr0 hfr1 hfr2 hfr3 B0 B2 HB4 hz4
  have hB3 := HB2.out.trans (hb3.mono (by simpa using HSZ.out))
  obtain ⟨b0, b1, b2, hz4, hb4⟩ := box_facts (k := 5) (t := t) (co := 9) (oa := oa) (ob := ob) (vl := .slice (some ⟨bb, oo, none⟩) n c) (b := b) hB3
  have hk0 : w3.cell? ⟨w.heap.size, 0, none⟩ = some (.int .i64 5) := by rw [b0.cell]; rfl
  have hk1 : w3.cell? ⟨w.heap.size, 1, none⟩ = some (.slice (some ⟨bb, oo, none⟩) n c) := by rw [b0.cell]; rfl
  have hk2 : w3.cell? ⟨w.heap.size, 2, none⟩ = some (.bool b) := by rw [b0.cell]; rfl
  have hk3 : w3.cell? ⟨w.heap.size, 3, none⟩ = some (.int .i64 t) := by rw [b0.cell]; rfl
  have ho0 : w3.cell? ⟨w.heap.size + 1, 0, none⟩ = some (.int .i64 9) := by rw [b1.cell]; rfl
  have ho1 : w3.cell? ⟨w.heap.size + 1, 1, none⟩ = some (.int .i64 oa) := by rw [b1.cell]; rfl
  have ho2 : w3.cell? ⟨w.heap.size + 1, 2, none⟩ = some (.int .i64 ob) := by rw [b1.cell]; rfl
  have hr0 : w3.cell? ⟨w.heap.size + 1 + 1, 0, none⟩ = some (.int .i64 0) := by rw [b2.cell]; rfl
  have hr1 : w3.cell? ⟨w.heap.size + 1 + 1, 1, none⟩ = some (.slice none 0 0) := by rw [b2.cell]; rfl
  have hr2 : w3.cell? ⟨w.heap.size + 1 + 1, 2, none⟩ = some (.bool false) := by rw [b2.cell]; rfl
  have hr3 : w3.cell? ⟨w.heap.size + 1 + 1, 3, none⟩ = some (.int .i64 0) := by rw [b2.cell]; rfl
  have hfz0 := b0.frozen 0
  have hfz1 := b0.frozen 1
  have hfz2 := b0.frozen 2
  have hfz3 := b0.frozen 3
  have hfr0 := b2.frozen 0
  have hfr1 := b2.frozen 1
  have hfr2 := b2.frozen 2
  have hfr3 := b2.frozen 3
  have B0 := Lib.hid b0
  have B2 := Lib.hid b2
  have HB4 := Lib.hid hb4
  clear b0 b1 b2 hb4
  have HO2 := Lib.hid hown
  have HF2 := Lib.hid (hfr.mono (by have hsz2 := HSZ.out; simp at hsz2; simp; omega : w.heap.size ≤ _))
  clear hown hfr hb3 hB3
  go_wp2_with fail
  refine bodyPost_ret (v := .tuple #[.agg #[.int .i64 5, .slice a3 ln2 c3, .bool b, .int .i64 t], .int .i64 1]) ?_ rfl ?_
  · simp [results, Try.results68, go_sem, hr0, hr1, hr2, hr3]
  · exact StepP.weak (stepp_own B0.out B2.out (sets_keeps _ _ _ _ _ _ _ _) HB4.out (Nat.le_refl _) (by omega) HO2.out HF2.out _ _ _ _)
theorem may_ledgerB {s : St} (hk : s.kind = 5) (hm : mayB s = true) : pairsB s.L 0 = true := by
  unfold mayB at hm
  split at hm
  · simp at hm
  · simpa [hk] using hm
theorem find_cell' {w : World} {a : Option Addr} {n c : Nat} {L : List Int} (hx : Rd w (.slice a n c) L) (hn : n = L.length) (he : L.length % 2 = 0) (key : Int) :
    (foundB L key = false ∧ findZ L key = -1 ∧ hasI L key = -1) ∨ (foundB L key = true ∧ ∃ (j : Nat), findZ L key = (j : Int) ∧ j + 1 < n ∧ ∀ bb oo : Nat, a = some ⟨bb, oo, none⟩ → w.cell? ⟨bb, oo + (j + 1), none⟩ = some (.int .i64 (hasI L key))) := by
  unfold findZ hasI
  cases hf : foundB L key
  · exact .inl ⟨rfl, rfl, rfl⟩
  · have hlt := found_lt hf he
    obtain ⟨a', c', e, r1, r2, r3⟩ := hx
    obtain ⟨bb, oo, e1, e2, e3⟩ := r3 (by omega)
    simp only [Value.slice.injEq] at e
    obtain ⟨rfl, _, _⟩ := e
    refine .inr ⟨rfl, findI L key, rfl, by omega, fun b' o' hb => ?_⟩
    rw [e1] at hb
    simp only [Option.some.injEq, Addr.mk.injEq] at hb
    obtain ⟨rfl, rfl, _⟩ := hb
    exact e3 _ hlt
set_option maxRecDepth 100000 in
set_option maxHeartbeats 6400000 in
theorem r_move {w : World} {vl : Value} (s : St) (o : Op3) (hx : Rd w vl s.L) (hk : s.kind = 5) (hc : o.code = 9) (hm : mayB s = true) :
    Calls Try.prog 68 #[.agg #[.int .i64 s.kind, vl, .bool s.isSealed, .int .i64 s.to], .agg #[.int .i64 o.code, .int .i64 o.a, .int .i64 o.b]] w (StepQ w vl (moveS s o)) := by
  have hp := may_ledgerB hk hm
  have hbd := may_ledger hk hm
  obtain ⟨p1, p2, p3⟩ := pairsB_iff.1 hp
  obtain ⟨k, L, b, t⟩ := s
  obtain ⟨co, oa, ob⟩ := o
  simp only at hx hk hc p1 p2 p3 hm hp hbd ⊢
  subst hk
  subst hc
  obtain ⟨a, n, c, rfl, hn⟩ : ∃ a n c, vl = .slice a n c ∧ n = L.length := by
    obtain ⟨a, c, e, _⟩ := hx
    exact ⟨a, _, c, e, rfl⟩
  have HX := Lib.hid hx
  have hn3 : n ≤ 128 := by omega
  have HFi := fun (key : Int) W (hB : Below w.heap.size w W) => Lib.hid (r_find (w := W) (HX.out.below hB (Nat.le_refl _)) p1 p2 p3 key)
  clear hm
  by_cases h0 : oa < 0 ∨ 65536 ≤ oa ∨ ob < 0
  · have hr : moveS ⟨5, L, b, t⟩ ⟨9, oa, ob⟩ = ((⟨5, L, b, t⟩ : St), 0) := by simp [moveS, h0]
    rw [hr]
    exact r_move_no h0 HX
  have n1 : 0 ≤ oa := by omega
  have n2 : oa < 65536 := by omega
  have n3 : 0 ≤ ob := by omega
  obtain ⟨f, ef⟩ : ∃ f, oa / 256 = f := ⟨_, rfl⟩
  obtain ⟨g, eg⟩ : ∃ g, oa % 256 = g := ⟨_, rfl⟩
  have hf0 : 0 ≤ f ∧ f ≤ 255 := by omega
  have hg0 : 0 ≤ g ∧ g ≤ 255 := by omega
  have hM : moveS ⟨5, L, b, t⟩ ⟨9, oa, ob⟩ = (if hasI L f < ob then ((⟨5, L, b, t⟩ : St), 0) else if f = g then (⟨5, L, b, t⟩, 1) else if putB L g = false ∨ 1099511627776 < max (hasI L g) 0 + ob then (⟨5, L, b, t⟩, 0) else (⟨5, putL (putL L g (max (hasI L g) 0 + ob)) f (hasI L f - ob), b, t⟩, 1)) := by
    unfold moveS
    simp only
    rw [if_neg h0, ef, eg]
  rw [hM]
  clear hM
  have HEF := Lib.hid ef
  have HEG := Lib.hid eg
  clear ef eg
  rcases find_cell' hx hn p2 f with ⟨q1, q2, q3⟩ | ⟨q1, j, q2, q3, q4⟩
  · rw [if_pos (by omega)]
    exact r_move_none (hf := 0) (hg := 0) n1 n2 n3 HEF.out HEG.out hn3 HX (HFi f) (HFi g) q2
  · obtain ⟨bb, oo, rfl, hb, -⟩ : ∃ (bb oo : Nat), a = some ⟨bb, oo, none⟩ ∧ bb < w.heap.size ∧ True := by
      obtain ⟨a', c', e, r1, r2, r3⟩ := hx
      obtain ⟨bb, oo, e1, e2, _⟩ := r3 (by omega)
      simp only [Value.slice.injEq] at e
      obtain ⟨rfl, _, _⟩ := e
      exact ⟨bb, oo, e1, e2, trivial⟩
    by_cases h1 : hasI L f < ob
    · rw [if_pos h1]
      exact r_move_less (hg := 0) n1 n2 n3 HEF.out HEG.out hn3 HX (HFi f) (HFi g) q2 q3 rfl hb (q4 _ _ rfl) (hbd f).2 h1
    rw [if_neg h1]
    by_cases h2 : f = g
    · rw [if_pos h2]
      exact r_move_same (hg := 0) n1 n2 n3 HEF.out HEG.out hn3 HX (HFi f) (HFi g) q2 q3 rfl hb (q4 _ _ rfl) (hbd f).2 h1 h2.symm
    rw [if_neg h2]
    have h2' : (f == g) = false := by simpa using h2
    have hn1 : 0 ≤ hasI L f := by have := (hbd f).1; omega
    have hW : putB L g = true → ¬ 1099511627776 < max (hasI L g) 0 + ob → (putL (putL L g (max (hasI L g) 0 + ob)) f (hasI L f - ob) = putR (putR L f (hasI L f - ob)) g (max (hasI L g) 0 + ob)) ∧
        (∀ W, Below w.heap.size w W → Hid (Calls Try.prog 67 #[.slice (some ⟨bb, oo, none⟩) n c, .int .i64 f, .int .i64 (hasI L f - ob)] W (fun e w' => ∃ v', e = .returned v' ∧ OutRel W (putR L f (hasI L f - ob)) v' w'))) ∧
        (∀ W v', Rd W v' (putR L f (hasI L f - ob)) → Hid (Calls Try.prog 67 #[v', .int .i64 g, .int .i64 (max (hasI L g) 0 + ob)] W (fun e w' => ∃ v'', e = .returned v'' ∧ OutRel W (putR (putR L f (hasI L f - ob)) g (max (hasI L g) 0 + ob)) v'' w'))) := by
      intro hpb hov
      have hpf : putB L f = true := by unfold putB; rw [q1]; rfl
      have e1 := putL_eq (n := max (hasI L g) 0 + ob) p2 hpb
      have hev2 : (putL L g (max (hasI L g) 0 + ob)).length % 2 = 0 := by rw [e1]; exact putR_even p2
      have hfd2 : foundB (putL L g (max (hasI L g) 0 + ob)) f = true := by rw [e1, found_putR _ _ _ _ p2, q1, Bool.or_true]
      have hb2 : putB (putL L g (max (hasI L g) 0 + ob)) f = true := by unfold putB; rw [hfd2]; rfl
      have hpp := pairsB_put (n := hasI L f - ob) hp hpf hf0.1 hf0.2 (by omega) (by have := (hbd f).2; omega)
      rw [putL_eq p2 hpf] at hpp
      obtain ⟨s1, s2, s3⟩ := pairsB_iff.1 hpp
      refine ⟨?_, fun W hB => Lib.hid (r_with (w := W) (HX.out.below hB (Nat.le_refl _)) p1 p2 p3 f _), fun W v' hv' => Lib.hid (r_with (w := W) hv' s1 s2 s3 g _)⟩
      rw [putL_eq hev2 hb2, e1, putR_comm (Ne.symm h2) L p2]
    rcases find_cell' hx hn p2 g with ⟨r1, r2, r3⟩ | ⟨r1, j2, r2, r3, r4⟩
    · have hmx : max (hasI L g) 0 + ob = ob := by omega
      rw [hmx] at hW ⊢
      by_cases h128 : n = 128
      · have hpb : putB L g = false := by unfold putB; rw [r1]; simp; omega
        rw [if_pos (.inl hpb)]
        exact r_move_full (hg := 0) n1 n2 n3 HEF.out HEG.out hn3 HX (HFi f) (HFi g) q2 q3 rfl hb (q4 _ _ rfl) (hbd f).2 h1 h2' r2 h128
      · have hpb : putB L g = true := by unfold putB; rw [r1]; simp; omega
        have hov : ¬ 1099511627776 < ob := by have := (hbd f).2; omega
        rw [if_neg (by rintro (h | h); · rw [hpb] at h; cases h
                       · exact hov h)]
        obtain ⟨w1, w2, w3⟩ := hW hpb hov
        rw [w1]
        exact r_move_do0 (hg := 0) n1 n2 n3 HEF.out HEG.out hn3 HX (HFi f) (HFi g) q2 q3 rfl hb (q4 _ _ rfl) (hbd f).2 h1 h2' r2 h128 rfl w2 w3
    · have hg1 : 0 ≤ hasI L g := pairs_found L (-1) p1 p2 g r1
      have hmx : max (hasI L g) 0 + ob = hasI L g + ob := by omega
      rw [hmx] at hW ⊢
      have hpb : putB L g = true := by unfold putB; rw [r1]; rfl
      by_cases hov : 1099511627776 < hasI L g + ob
      · rw [if_pos (.inr hov)]
        exact r_move_over n1 n2 n3 HEF.out HEG.out hn3 HX (HFi f) (HFi g) q2 q3 rfl hb (q4 _ _ rfl) (hbd f).2 h1 h2' r2 r3 (r4 _ _ rfl) hg1 (hbd g).2 hov
      · rw [if_neg (by rintro (h | h); · rw [hpb] at h; cases h
                       · exact hov h)]
        obtain ⟨w1, w2, w3⟩ := hW hpb hov
        rw [w1]
        exact r_move_do n1 n2 n3 HEF.out HEG.out hn3 HX (HFi f) (HFi g) q2 q3 rfl hb (q4 _ _ rfl) (hbd f).2 h1 h2' r2 r3 (r4 _ _ rfl) hg1 (hbd g).2 hov rfl w2 w3
end Go.Proofs.Ytjfenjnnpikkdaa
/- Layer 4, the document's answer: ledger. -/
namespace Go.Proofs.Ytjfenjnnpikkdaa
set_option maxRecDepth 100000
open Go.RowKit
open Go.Proofs.YtjfenjnnpikkdaaW.PrintLast

/-- A callee's state, behind what the caller wrote into blocks that the callee's list does not lie in. -/
theorem stepq_pass {w W w1 W' : World} {vl v : Value} {L0 : List Int} {r : St × Int} {F : Nat → Prop} (hx : Rd w vl L0) (hW : Below w.heap.size w W)
    (h1 : Rd w1 v r.1.L) (h2 : Below W.heap.size W w1) (h3 : v = vl ∨ ∀ k, v.ownBlock = some k → W.heap.size ≤ k ∧ k < w1.heap.size) (hk : Keeps F w1 W') (hF : ∀ k, F k → w.heap.size ≤ k ∧ ¬ (W.heap.size ≤ k ∧ k < w1.heap.size)) :
    StepQ w vl r (.returned (.tuple #[.agg #[.int .i64 r.1.kind, v, .bool r.1.isSealed, .int .i64 r.1.to], .int .i64 r.2])) W' := by
  have hb : Below w.heap.size w w1 := hW.trans (h2.mono hW.size)
  have hB := hb.trans (hk.below (B := w.heap.size) (fun k h => (hF k h).1) hb.size)
  rcases h3 with rfl | h3
  · have e := rd_inj h1 (hx.below hb (Nat.le_refl _))
    exact ⟨_, rfl, e ▸ hx.below hB (Nat.le_refl _), hB, .inl rfl⟩
  · refine ⟨_, rfl, ?_, hB, .inr fun k hq => ⟨Nat.le_trans hW.size (h3 k hq).1, Nat.lt_of_lt_of_le (h3 k hq).2 hk.size⟩⟩
    obtain ⟨a, c, e, r1, r2, r3⟩ := h1
    refine ⟨a, c, e, r1, r2, fun hl => ?_⟩
    obtain ⟨b', o', e1, e2, e3⟩ := r3 hl
    have hq : v.ownBlock = some b' := by rw [e, e1]; rfl
    refine ⟨b', o', e1, Nat.lt_of_lt_of_le e2 hk.size, fun i hi => ?_⟩
    rw [hk.cell (p := ⟨b', o' + i, none⟩) (fun h => (hF _ h).2 (h3 _ hq)) e2]
    exact e3 i hi

set_option maxRecDepth 100000 in
set_option maxHeartbeats 6400000 in
theorem r_ledger_no {w : World} {n c : Nat} {a : Option Addr} {L : List Int} {b : Bool} {t co oa ob r : Int} (g9 : (co == 9) = false)
    (h : ((co == 7) = false ∧ (co != 7) = true ∧ (co != 8) = true ∧ r = 0) ∨ (co = 7 ∧ (oa < 0 ∨ (¬ oa < 0 ∧ 255 < oa)) ∧ r = -1) ∨ (co = 8 ∧ (oa < 0 ∨ (¬ oa < 0 ∧ 255 < oa)) ∧ r = -1)) (HX : Hid (Rd w (.slice a n c) L)) :
    Calls Try.prog 46 #[.agg #[.int .i64 5, .slice a n c, .bool b, .int .i64 t], .agg #[.int .i64 co, .int .i64 oa, .int .i64 ob]] w (StepQ w (.slice a n c) ((⟨5, L, b, t⟩ : St), r)) := by
  rcases h with ⟨g7, u7, u8, rfl⟩ | ⟨rfl, h | ⟨h1, h2⟩, rfl⟩ | ⟨rfl, h | ⟨h1, h2⟩, rfl⟩
  · skip
    go_enter Try.func46, Try.ntmps46
    go_wp2_with fail
    refine bodyPost_ret (v := .tuple #[.agg #[.int .i64 5, .slice a n c, .bool b, .int .i64 t], .int .i64 0]) ?_ rfl ?_
    · simp [results, Try.results46, go_sem]
    · exact StepP.weak (stepp_same HX.out (below3 w _ _ _))
  · skip
    go_enter Try.func46, Try.ntmps46
    go_wp2_with fail
    refine bodyPost_ret (v := .tuple #[.agg #[.int .i64 5, .slice a n c, .bool b, .int .i64 t], .int .i64 (-1)]) ?_ rfl ?_
    · simp [results, Try.results46, go_sem]
    · exact StepP.weak (stepp_same HX.out (below3 w _ _ _))
  · skip
    go_enter Try.func46, Try.ntmps46
    go_wp2_with fail
    refine bodyPost_ret (v := .tuple #[.agg #[.int .i64 5, .slice a n c, .bool b, .int .i64 t], .int .i64 (-1)]) ?_ rfl ?_
    · simp [results, Try.results46, go_sem]
    · exact StepP.weak (stepp_same HX.out (below3 w _ _ _))
  · skip
    go_enter Try.func46, Try.ntmps46
    go_wp2_with fail
    refine bodyPost_ret (v := .tuple #[.agg #[.int .i64 5, .slice a n c, .bool b, .int .i64 t], .int .i64 (-1)]) ?_ rfl ?_
    · simp [results, Try.results46, go_sem]
    · exact StepP.weak (stepp_same HX.out (below3 w _ _ _))
  · skip
    go_enter Try.func46, Try.ntmps46
    go_wp2_with fail
    refine bodyPost_ret (v := .tuple #[.agg #[.int .i64 5, .slice a n c, .bool b, .int .i64 t], .int .i64 (-1)]) ?_ rfl ?_
    · simp [results, Try.results46, go_sem]
    · exact StepP.weak (stepp_same HX.out (below3 w _ _ _))

set_option maxRecDepth 100000 in
set_option maxHeartbeats 6400000 in
theorem r_ledger_get {w : World} {n c : Nat} {a : Option Addr} {L : List Int} {b : Bool} {t oa ob i had : Int} (n1 : ¬ oa < 0) (n2 : ¬ 255 < oa) (hn3 : n ≤ 128) (HX : Hid (Rd w (.slice a n c) L))
    (HFi : ∀ W, Below w.heap.size w W → Hid (Calls Try.prog 65 #[.slice a n c, .int .i64 oa] W fun e w' => e = .returned (.int .i64 i) ∧ w' = W)) (hi : FindC w a n i had) :
    Calls Try.prog 46 #[.agg #[.int .i64 5, .slice a n c, .bool b, .int .i64 t], .agg #[.int .i64 7, .int .i64 oa, .int .i64 ob]] w (StepQ w (.slice a n c) ((⟨5, L, b, t⟩ : St), had)) := by
  rcases hi with ⟨rfl, rfl⟩ | ⟨j, bb, oo, rfl, h1, rfl, hb, hc⟩
  · skip
    go_enter Try.func46, Try.ntmps46
    go_wp2_with fail
    refine (HFi _ (below3 w _ _ _)).out.mono ?_
    rintro e w1 ⟨rfl, rfl⟩
    go_wp2_with fail
    refine bodyPost_ret (v := .tuple #[.agg #[.int .i64 5, .slice a n c, .bool b, .int .i64 t], .int .i64 (-1)]) ?_ rfl ?_
    · simp [results, Try.results46, go_sem]
    · exact StepP.weak (stepp_same HX.out (below3 w _ _ _))
  · skip
    have hb1 : bb < w.heap.size + 1 := by omega
    have hb2 : bb < w.heap.size + 1 + 1 := by omega
    have hj : j < n := by omega
    go_enter Try.func46, Try.ntmps46
    go_wp2_with fail
    refine (HFi _ (below3 w _ _ _)).out.mono ?_
    rintro e w1 ⟨rfl, rfl⟩
    go_wp2_with fail
    refine bodyPost_ret (v := .tuple #[.agg #[.int .i64 5, .slice (some ⟨bb, oo, none⟩) n c, .bool b, .int .i64 t], .int .i64 had]) ?_ rfl ?_
    · simp [results, Try.results46, go_sem]
    · exact StepP.weak (stepp_same HX.out (below3 w _ _ _))

set_option maxRecDepth 100000 in
set_option maxHeartbeats 6400000 in
theorem r_ledger_neg {w : World} {n c : Nat} {a : Option Addr} {L : List Int} {b : Bool} {t oa ob i had : Int} (n1 : ¬ oa < 0) (n2 : ¬ 255 < oa) (hn3 : n ≤ 128) (HX : Hid (Rd w (.slice a n c) L))
    (HFi : ∀ W, Below w.heap.size w W → Hid (Calls Try.prog 65 #[.slice a n c, .int .i64 oa] W fun e w' => e = .returned (.int .i64 i) ∧ w' = W)) (hi : FindC w a n i had) (hob : ob < 0) :
    Calls Try.prog 46 #[.agg #[.int .i64 5, .slice a n c, .bool b, .int .i64 t], .agg #[.int .i64 8, .int .i64 oa, .int .i64 ob]] w (StepQ w (.slice a n c) ((⟨5, L, b, t⟩ : St), -1)) := by
  rcases hi with ⟨rfl, rfl⟩ | ⟨j, bb, oo, rfl, h1, rfl, hb, hc⟩
  · skip
    go_enter Try.func46, Try.ntmps46
    go_wp2_with fail
    refine (HFi _ (below3 w _ _ _)).out.mono ?_
    rintro e w1 ⟨rfl, rfl⟩
    go_wp2_with fail
    refine bodyPost_ret (v := .tuple #[.agg #[.int .i64 5, .slice a n c, .bool b, .int .i64 t], .int .i64 (-1)]) ?_ rfl ?_
    · simp [results, Try.results46, go_sem]
    · exact StepP.weak (stepp_same HX.out (below3 w _ _ _))
  · skip
    have hb1 : bb < w.heap.size + 1 := by omega
    have hb2 : bb < w.heap.size + 1 + 1 := by omega
    have hj : j < n := by omega
    go_enter Try.func46, Try.ntmps46
    go_wp2_with fail
    refine (HFi _ (below3 w _ _ _)).out.mono ?_
    rintro e w1 ⟨rfl, rfl⟩
    go_wp2_with fail
    refine bodyPost_ret (v := .tuple #[.agg #[.int .i64 5, .slice (some ⟨bb, oo, none⟩) n c, .bool b, .int .i64 t], .int .i64 (-1)]) ?_ rfl ?_
    · simp [results, Try.results46, go_sem]
    · exact StepP.weak (stepp_same HX.out (below3 w _ _ _))

set_option maxRecDepth 100000 in
set_option maxHeartbeats 6400000 in
theorem r_ledger_full {w : World} {n c : Nat} {a : Option Addr} {L : List Int} {b : Bool} {t oa ob i had : Int} (n1 : ¬ oa < 0) (n2 : ¬ 255 < oa) (hn3 : n ≤ 128) (HX : Hid (Rd w (.slice a n c) L))
    (HFi : ∀ W, Below w.heap.size w W → Hid (Calls Try.prog 65 #[.slice a n c, .int .i64 oa] W fun e w' => e = .returned (.int .i64 i) ∧ w' = W)) (hi : FindC w a n i had) (hob : ¬ ob < 0) (hf : i = -1) (hn : n = 128) :
    Calls Try.prog 46 #[.agg #[.int .i64 5, .slice a n c, .bool b, .int .i64 t], .agg #[.int .i64 8, .int .i64 oa, .int .i64 ob]] w (StepQ w (.slice a n c) ((⟨5, L, b, t⟩ : St), -2)) := by
  subst hf
  have hnb : ((n : Int) == 128) = true := by simp; omega
  clear hn hi
  go_enter Try.func46, Try.ntmps46
  go_wp2_with fail
  refine (HFi _ (below3 w _ _ _)).out.mono ?_
  rintro e w1 ⟨rfl, rfl⟩
  go_wp2_with fail
  refine bodyPost_ret (v := .tuple #[.agg #[.int .i64 5, .slice a n c, .bool b, .int .i64 t], .int .i64 (-2)]) ?_ rfl ?_
  · simp [results, Try.results46, go_sem]
  · exact StepP.weak (stepp_same HX.out (below3 w _ _ _))

set_option maxRecDepth 100000 in
set_option maxHeartbeats 6400000 in
theorem r_ledger_dep {w : World} {n c : Nat} {a : Option Addr} {L L2 : List Int} {b : Bool} {t oa ob i had y z : Int} (n1 : ¬ oa < 0) (n2 : ¬ 255 < oa) (hn3 : n ≤ 128) (HX : Hid (Rd w (.slice a n c) L))
    (HFi : ∀ W, Below w.heap.size w W → Hid (Calls Try.prog 65 #[.slice a n c, .int .i64 oa] W fun e w' => e = .returned (.int .i64 i) ∧ w' = W)) (hi : FindC w a n i had) (hob : ¬ ob < 0) (hput : i = -1 → n ≠ 128) (hh : i = -1 ∨ 0 ≤ had) (hhm : had ≤ 1099511627776) (hy1 : -1099511627776 ≤ y) (hy2 : y ≤ 1099511627776)
    (HC1 : ∀ W, Hid (Calls Try.prog 64 #[.int .i64 ob] W fun e w' => e = .returned (.int .i64 y) ∧ w' = W)) (HC2 : ∀ W, Hid (Calls Try.prog 64 #[.int .i64 (max had 0 + y)] W fun e w' => e = .returned (.int .i64 z) ∧ w' = W))
    (HR : ∀ W, Below w.heap.size w W → Hid (Calls Try.prog 67 #[.slice a n c, .int .i64 oa, .int .i64 z] W (fun e w' => ∃ v', e = .returned v' ∧ OutRel W L2 v' w'))) :
    Calls Try.prog 46 #[.agg #[.int .i64 5, .slice a n c, .bool b, .int .i64 t], .agg #[.int .i64 8, .int .i64 oa, .int .i64 ob]] w (StepQ w (.slice a n c) ((⟨5, L2, b, t⟩ : St), z)) := by
  generalize hL2 : L2.length = ln2 at *
  rcases hi with ⟨rfl, rfl⟩ | ⟨j, bb, oo, rfl, h1, rfl, hb, hc⟩
  · skip
    have hnb : ((n : Int) == 128) = false := by have := hput rfl; simp; omega
    have e1 : max (-1 : Int) 0 + y = y := by omega
    have w2 : IntKind.i64.wrap y = y := IntWalk.i64_in _ (by omega)
    have w1 : IntKind.i64.wrap ((0 : Int) + y) = y := by rw [Int.zero_add]; exact w2
    rw [e1] at HC2
    clear e1 hh hput hhm hy1 hy2
    go_enter Try.func46, Try.ntmps46
    go_wp2_with fail
    refine (HFi _ (below3 w _ _ _)).out.mono ?_
    rintro e w1 ⟨rfl, rfl⟩
    go_wp2_with (go_at_call 64; first | (with_reducible refine (HC1 _).out.mono ?_; (rintro e w1 ⟨rfl, rfl⟩)) | (with_reducible refine (HC2 _).out.mono ?_; (rintro e w1 ⟨rfl, rfl⟩)))
    refine (HR _ (below3 w _ _ _)).out.mono ?_
    rintro e w2 ⟨v2, rfl, hb2, hfr, hown⟩
    rw [hL2] at hown
    obtain ⟨a2, c2, rfl⟩ := own_shape hown
    have hB2 := hb2.mono (by simp : w.heap.size + 1 + 1 + 1 ≤ _)
    obtain ⟨b0, b1, b2, hz4, hb4⟩ := box_facts (k := 5) (t := t) (co := 8) (oa := oa) (ob := ob) (vl := .slice a n c) (b := b) hB2
    have hk0 : w2.cell? ⟨w.heap.size, 0, none⟩ = some (.int .i64 5) := by rw [b0.cell]; rfl
    have hk1 : w2.cell? ⟨w.heap.size, 1, none⟩ = some (.slice a n c) := by rw [b0.cell]; rfl
    have hk2 : w2.cell? ⟨w.heap.size, 2, none⟩ = some (.bool b) := by rw [b0.cell]; rfl
    have hk3 : w2.cell? ⟨w.heap.size, 3, none⟩ = some (.int .i64 t) := by rw [b0.cell]; rfl
    have ho0 : w2.cell? ⟨w.heap.size + 1, 0, none⟩ = some (.int .i64 8) := by rw [b1.cell]; rfl
    have ho1 : w2.cell? ⟨w.heap.size + 1, 1, none⟩ = some (.int .i64 oa) := by rw [b1.cell]; rfl
    have ho2 : w2.cell? ⟨w.heap.size + 1, 2, none⟩ = some (.int .i64 ob) := by rw [b1.cell]; rfl
    have hr0 : w2.cell? ⟨w.heap.size + 1 + 1, 0, none⟩ = some (.int .i64 0) := by rw [b2.cell]; rfl
    have hr1 : w2.cell? ⟨w.heap.size + 1 + 1, 1, none⟩ = some (.slice none 0 0) := by rw [b2.cell]; rfl
    have hr2 : w2.cell? ⟨w.heap.size + 1 + 1, 2, none⟩ = some (.bool false) := by rw [b2.cell]; rfl
    have hr3 : w2.cell? ⟨w.heap.size + 1 + 1, 3, none⟩ = some (.int .i64 0) := by rw [b2.cell]; rfl
    have hfz0 := b0.frozen 0
    have hfz1 := b0.frozen 1
    have hfz2 := b0.frozen 2
    have hfz3 := b0.frozen 3
    have hfr0 := b2.frozen 0
    have hfr1 := b2.frozen 1
    have hfr2 := b2.frozen 2
    have hfr3 := b2.frozen 3
    have B0 := Lib.hid b0
    have B2 := Lib.hid b2
    have HB4 := Lib.hid hb4
    clear b0 b1 b2 hb4
    have HO2 := Lib.hid hown
    have HF2 := Lib.hid (hfr.mono (by simp; omega : w.heap.size ≤ _))
    clear hown hfr hb2 hB2
    go_wp2_with fail
    refine bodyPost_ret (v := .tuple #[.agg #[.int .i64 5, .slice a2 ln2 c2, .bool b, .int .i64 t], .int .i64 z]) ?_ rfl ?_
    · simp [results, Try.results46, go_sem, hr0, hr1, hr2, hr3]
    · exact StepP.weak (stepp_own B0.out B2.out (sets_keeps _ _ _ _ _ _ _ _) HB4.out (Nat.le_refl _) (by omega) HO2.out HF2.out _ _ _ _)
  · skip
    have hb1 : bb < w.heap.size + 1 := by omega
    have hb2 : bb < w.heap.size + 1 + 1 := by omega
    have hj : j < n := by omega
    have hh0 : 0 ≤ had := by omega
    have hh1 : ¬ had < 0 := by omega
    have e1 : max had 0 + y = had + y := by omega
    have w1 : IntKind.i64.wrap (had + y) = had + y := IntWalk.i64_in _ (by omega)
    rw [e1] at HC2
    clear e1 hh hput hhm hy1 hy2
    go_enter Try.func46, Try.ntmps46
    go_wp2_with fail
    refine (HFi _ (below3 w _ _ _)).out.mono ?_
    rintro e w1 ⟨rfl, rfl⟩
    go_wp2_with (go_at_call 64; first | (with_reducible refine (HC1 _).out.mono ?_; (rintro e w1 ⟨rfl, rfl⟩)) | (with_reducible refine (HC2 _).out.mono ?_; (rintro e w1 ⟨rfl, rfl⟩)))
    refine (HR _ (below3 w _ _ _)).out.mono ?_
    rintro e w2 ⟨v2, rfl, hb2, hfr, hown⟩
    rw [hL2] at hown
    obtain ⟨a2, c2, rfl⟩ := own_shape hown
    have hB2 := hb2.mono (by simp : w.heap.size + 1 + 1 + 1 ≤ _)
    obtain ⟨b0, b1, b2, hz4, hb4⟩ := box_facts (k := 5) (t := t) (co := 8) (oa := oa) (ob := ob) (vl := .slice (some ⟨bb, oo, none⟩) n c) (b := b) hB2
    have hk0 : w2.cell? ⟨w.heap.size, 0, none⟩ = some (.int .i64 5) := by rw [b0.cell]; rfl
    have hk1 : w2.cell? ⟨w.heap.size, 1, none⟩ = some (.slice (some ⟨bb, oo, none⟩) n c) := by rw [b0.cell]; rfl
    have hk2 : w2.cell? ⟨w.heap.size, 2, none⟩ = some (.bool b) := by rw [b0.cell]; rfl
    have hk3 : w2.cell? ⟨w.heap.size, 3, none⟩ = some (.int .i64 t) := by rw [b0.cell]; rfl
    have ho0 : w2.cell? ⟨w.heap.size + 1, 0, none⟩ = some (.int .i64 8) := by rw [b1.cell]; rfl
    have ho1 : w2.cell? ⟨w.heap.size + 1, 1, none⟩ = some (.int .i64 oa) := by rw [b1.cell]; rfl
    have ho2 : w2.cell? ⟨w.heap.size + 1, 2, none⟩ = some (.int .i64 ob) := by rw [b1.cell]; rfl
    have hr0 : w2.cell? ⟨w.heap.size + 1 + 1, 0, none⟩ = some (.int .i64 0) := by rw [b2.cell]; rfl
    have hr1 : w2.cell? ⟨w.heap.size + 1 + 1, 1, none⟩ = some (.slice none 0 0) := by rw [b2.cell]; rfl
    have hr2 : w2.cell? ⟨w.heap.size + 1 + 1, 2, none⟩ = some (.bool false) := by rw [b2.cell]; rfl
    have hr3 : w2.cell? ⟨w.heap.size + 1 + 1, 3, none⟩ = some (.int .i64 0) := by rw [b2.cell]; rfl
    have hfz0 := b0.frozen 0
    have hfz1 := b0.frozen 1
    have hfz2 := b0.frozen 2
    have hfz3 := b0.frozen 3
    have hfr0 := b2.frozen 0
    have hfr1 := b2.frozen 1
    have hfr2 := b2.frozen 2
    have hfr3 := b2.frozen 3
    have B0 := Lib.hid b0
    have B2 := Lib.hid b2
    have HB4 := Lib.hid hb4
    clear b0 b1 b2 hb4
    have HO2 := Lib.hid hown
    have HF2 := Lib.hid (hfr.mono (by simp; omega : w.heap.size ≤ _))
    clear hown hfr hb2 hB2
    go_wp2_with fail
    refine bodyPost_ret (v := .tuple #[.agg #[.int .i64 5, .slice a2 ln2 c2, .bool b, .int .i64 t], .int .i64 z]) ?_ rfl ?_
    · simp [results, Try.results46, go_sem, hr0, hr1, hr2, hr3]
    · exact StepP.weak (stepp_own B0.out B2.out (sets_keeps _ _ _ _ _ _ _ _) HB4.out (Nat.le_refl _) (by omega) HO2.out HF2.out _ _ _ _)

set_option maxRecDepth 100000 in
set_option maxHeartbeats 6400000 in
theorem r_ledger_move {w : World} {n c : Nat} {a : Option Addr} {L : List Int} {b : Bool} {t oa ob : Int} {r : St × Int} (HX : Hid (Rd w (.slice a n c) L))
    (HM : ∀ W, Below w.heap.size w W → Hid (Calls Try.prog 68 #[.agg #[.int .i64 5, .slice a n c, .bool b, .int .i64 t], .agg #[.int .i64 9, .int .i64 oa, .int .i64 ob]] W (StepQ W (.slice a n c) r))) :
    Calls Try.prog 46 #[.agg #[.int .i64 5, .slice a n c, .bool b, .int .i64 t], .agg #[.int .i64 9, .int .i64 oa, .int .i64 ob]] w (StepQ w (.slice a n c) (r)) := by
  go_enter Try.func46, Try.ntmps46
  go_wp2_with fail
  refine (HM _ (below3 w _ _ _)).out.mono ?_
  rintro e w4 ⟨v4, rfl, hrd, hb4', hor⟩
  obtain ⟨a4, c4, rfl, _⟩ := id hrd
  obtain ⟨b0, b1, b2, hz4, hb4⟩ := box_facts (k := 5) (t := t) (co := 9) (oa := oa) (ob := ob) (vl := .slice a n c) (b := b) (hb4'.mono (by simp : w.heap.size + 1 + 1 + 1 ≤ _))
  have hk0 : w4.cell? ⟨w.heap.size, 0, none⟩ = some (.int .i64 5) := by rw [b0.cell]; rfl
  have hk1 : w4.cell? ⟨w.heap.size, 1, none⟩ = some (.slice a n c) := by rw [b0.cell]; rfl
  have hk2 : w4.cell? ⟨w.heap.size, 2, none⟩ = some (.bool b) := by rw [b0.cell]; rfl
  have hk3 : w4.cell? ⟨w.heap.size, 3, none⟩ = some (.int .i64 t) := by rw [b0.cell]; rfl
  have ho0 : w4.cell? ⟨w.heap.size + 1, 0, none⟩ = some (.int .i64 9) := by rw [b1.cell]; rfl
  have ho1 : w4.cell? ⟨w.heap.size + 1, 1, none⟩ = some (.int .i64 oa) := by rw [b1.cell]; rfl
  have ho2 : w4.cell? ⟨w.heap.size + 1, 2, none⟩ = some (.int .i64 ob) := by rw [b1.cell]; rfl
  have hr0 : w4.cell? ⟨w.heap.size + 1 + 1, 0, none⟩ = some (.int .i64 0) := by rw [b2.cell]; rfl
  have hr1 : w4.cell? ⟨w.heap.size + 1 + 1, 1, none⟩ = some (.slice none 0 0) := by rw [b2.cell]; rfl
  have hr2 : w4.cell? ⟨w.heap.size + 1 + 1, 2, none⟩ = some (.bool false) := by rw [b2.cell]; rfl
  have hr3 : w4.cell? ⟨w.heap.size + 1 + 1, 3, none⟩ = some (.int .i64 0) := by rw [b2.cell]; rfl
  have hfz0 := b0.frozen 0
  have hfz1 := b0.frozen 1
  have hfz2 := b0.frozen 2
  have hfz3 := b0.frozen 3
  have hfr0 := b2.frozen 0
  have hfr1 := b2.frozen 1
  have hfr2 := b2.frozen 2
  have hfr3 := b2.frozen 3
  have B0 := Lib.hid b0
  have B2 := Lib.hid b2
  have HB4 := Lib.hid hb4
  clear b0 b1 b2 hb4
  have HBM := Lib.hid hb4'
  have HR := Lib.hid hrd
  have HO := Lib.hid hor
  clear hb4' hrd hor
  have hz5 : w.heap.size + 1 + 1 < w4.heap.size := by omega
  have hz6 : w.heap.size + 1 + 1 ≠ w4.heap.size := by omega
  have hz7 : w4.heap.size ≠ w.heap.size + 1 + 1 := by omega
  obtain ⟨⟨k', L', b', t'⟩, m'⟩ := r
  go_wp2_with fail
  refine bodyPost_ret (v := .tuple #[.agg #[.int .i64 k', .slice a4 L'.length c4, .bool b', .int .i64 t'], .int .i64 m']) ?_ rfl ?_
  · simp [results, Try.results46, go_sem, hr0, hr1, hr2, hr3, hz5, hz6, hz7]
  · refine stepq_pass (r := (⟨k', L', b', t'⟩, m')) HX.out (below3 w _ _ _) HR.out HBM.out HO.out ((res_keeps w4 _ _ _ _ _).alloc _) ?_
    rintro k rfl
    simp
    omega
theorem r_ledger {w : World} {vl : Value} (s : St) (o : Op3) (hx : Rd w vl s.L) (hk : s.kind = 5) (hm : mayB s = true) :
    Calls Try.prog 46 #[.agg #[.int .i64 s.kind, vl, .bool s.isSealed, .int .i64 s.to], .agg #[.int .i64 o.code, .int .i64 o.a, .int .i64 o.b]] w (StepQ w vl (ledgerS s o)) := by
  by_cases c9 : o.code = 9
  · have hM := fun W (hB : Below w.heap.size w W) => Lib.hid (r_move s o (hx.below hB (Nat.le_refl _)) hk c9 hm)
    have hr : ledgerS s o = moveS s o := by unfold ledgerS; rw [if_pos c9]
    rw [hr]
    generalize moveS s o = r at *
    obtain ⟨k, L, b, t⟩ := s
    obtain ⟨co, oa, ob⟩ := o
    simp only at hx hk c9 hM ⊢
    subst hk
    subst c9
    obtain ⟨a, c, rfl, _⟩ := id hx
    exact r_ledger_move (Lib.hid hx) hM
  have hp := may_ledgerB hk hm
  have hbd := may_ledger hk hm
  obtain ⟨p1, p2, p3⟩ := pairsB_iff.1 hp
  obtain ⟨k, L, b, t⟩ := s
  obtain ⟨co, oa, ob⟩ := o
  simp only at hx hk p1 p2 p3 hm hp hbd c9 ⊢
  subst hk
  obtain ⟨a, n, c, rfl, hn⟩ : ∃ a n c, vl = .slice a n c ∧ n = L.length := by
    obtain ⟨a, c, e, _⟩ := hx
    exact ⟨a, _, c, e, rfl⟩
  have HX := Lib.hid hx
  have hn3 : n ≤ 128 := by omega
  have HFi := fun W (hB : Below w.heap.size w W) => Lib.hid (r_find (w := W) (HX.out.below hB (Nat.le_refl _)) p1 p2 p3 oa)
  have hi : FindC w a n (findZ L oa) (hasI L oa) := find_cell hx hn p2 oa
  have g9 : (co == 9) = false := by simpa using c9
  by_cases hc : co ≠ 7 ∧ co ≠ 8
  · have hr : ledgerS ⟨5, L, b, t⟩ ⟨co, oa, ob⟩ = ((⟨5, L, b, t⟩ : St), 0) := by unfold ledgerS; simp only; rw [if_neg c9, if_pos hc]
    rw [hr]
    exact r_ledger_no g9 (.inl ⟨by simpa using hc.1, by simpa using hc.1, by simpa using hc.2, rfl⟩) HX
  by_cases ha : oa < 0 ∨ 255 < oa
  · have hr : ledgerS ⟨5, L, b, t⟩ ⟨co, oa, ob⟩ = ((⟨5, L, b, t⟩ : St), -1) := by unfold ledgerS; simp only; rw [if_neg c9, if_neg hc, if_pos ha]
    rw [hr]
    refine r_ledger_no g9 ?_ HX
    have : co = 7 ∨ co = 8 := by omega
    rcases this with rfl | rfl
    · exact .inr (.inl ⟨rfl, by omega, rfl⟩)
    · exact .inr (.inr ⟨rfl, by omega, rfl⟩)
  by_cases c7 : co = 7
  · have hr : ledgerS ⟨5, L, b, t⟩ ⟨co, oa, ob⟩ = ((⟨5, L, b, t⟩ : St), hasI L oa) := by unfold ledgerS; simp only; rw [if_neg c9, if_neg hc, if_neg ha, if_pos c7]
    rw [hr]
    subst c7
    exact r_ledger_get (by omega) (by omega) hn3 HX HFi hi
  have c8 : co = 8 := by omega
  subst c8
  by_cases hb : ob < 0
  · have hr : ledgerS ⟨5, L, b, t⟩ ⟨8, oa, ob⟩ = ((⟨5, L, b, t⟩ : St), -1) := by unfold ledgerS; simp only; rw [if_neg c9, if_neg hc, if_neg ha, if_neg c7, if_pos hb]
    rw [hr]
    exact r_ledger_neg (by omega) (by omega) hn3 HX HFi hi hb
  · have hr : ledgerS ⟨5, L, b, t⟩ ⟨8, oa, ob⟩ = if putB L oa = true then ((⟨5, putL L oa (cutI (max (hasI L oa) 0 + cutI ob)), b, t⟩ : St), cutI (max (hasI L oa) 0 + cutI ob)) else ((⟨5, L, b, t⟩ : St), -2) := by unfold ledgerS; simp only; rw [if_neg c9, if_neg hc, if_neg ha, if_neg c7, if_neg hb]
    rw [hr]
    by_cases hpb : putB L oa = true
    · rw [if_pos hpb, putL_eq p2 hpb]
      refine r_ledger_dep (by omega) (by omega) hn3 HX HFi hi hb ?_ ?_ (hbd oa).2 (cutI_range ob).1 (cutI_range ob).2 (fun W => Lib.hid (r_cut ob W)) (fun W => Lib.hid (r_cut (max (hasI L oa) 0 + cutI ob) W)) (fun W hB => Lib.hid (r_with (w := W) (HX.out.below hB (Nat.le_refl _)) p1 p2 p3 oa _))
      · intro h1 h2
        have hfd : foundB L oa = false := findZ_neg.1 (by omega)
        unfold putB at hpb
        simp [hfd] at hpb
        omega
      · cases hfd : foundB L oa
        · exact .inl (by unfold findZ; rw [hfd]; rfl)
        · exact .inr (pairs_found L (-1) p1 p2 oa hfd)
    · rw [if_neg hpb]
      have hfd : foundB L oa = false := by
        cases hfd : foundB L oa
        · rfl
        · exact absurd (by unfold putB; rw [hfd]; rfl) hpb
      refine r_ledger_full (by omega) (by omega) hn3 HX HFi hi hb (by unfold findZ; rw [hfd]; rfl) ?_
      unfold putB at hpb
      simp [hfd] at hpb
      omega
end Go.Proofs.Ytjfenjnnpikkdaa
/- Layer 4, the document's answer: Step. -/
namespace Go.Proofs.Ytjfenjnnpikkdaa
set_option maxRecDepth 100000
open Go.RowKit

theorem two_keeps (w4 : World) (C D : Nat) (u1 u2 u3 u4 v1 v2 v3 v4 : Value) : Keeps (fun k => k = C ∨ k = D) w4 ((((((((w4.setCell ⟨D, 0, none⟩ u1).setCell ⟨D, 1, none⟩ u2).setCell ⟨D, 2, none⟩ u3).setCell ⟨D, 3, none⟩ u4).setCell ⟨C, 0, none⟩ v1).setCell ⟨C, 1, none⟩ v2).setCell ⟨C, 2, none⟩ v3).setCell ⟨C, 3, none⟩ v4) :=
  (((((((((Keeps.refl _ w4).set D 0 (.inl (.inr rfl)) _).set D 1 (.inl (.inr rfl)) _).set D 2 (.inl (.inr rfl)) _).set D 3 (.inl (.inr rfl)) _).set C 0 (.inl (.inl rfl)) _).set C 1 (.inl (.inl rfl)) _).set C 2 (.inl (.inl rfl)) _).set C 3 (.inl (.inl rfl)) _)

set_option maxRecDepth 100000 in
set_option maxHeartbeats 6400000 in
theorem r_step_no {w : World} {n c : Nat} {a : Option Addr} {L : List Int} {b m : Bool} {k t co oa ob r : Int} (HX : Hid (Rd w (.slice a n c) L))
    (HM : ∀ W, Below w.heap.size w W → Hid (Calls Try.prog 42 #[.agg #[.int .i64 k, .slice a n c, .bool b, .int .i64 t]] W (Tells W m)))
    (h : (m = false ∧ r = 0) ∨ (m = true ∧ b = true ∧ r = -1125899906842624)) :
    Calls Try.prog 18 #[.agg #[.int .i64 k, .slice a n c, .bool b, .int .i64 t], .agg #[.int .i64 co, .int .i64 oa, .int .i64 ob]] w (StepQ w (.slice a n c) ((⟨k, L, b, t⟩ : St), r)) := by
  rcases h with ⟨rfl, rfl⟩ | ⟨rfl, rfl, rfl⟩
  all_goals
    go_enter Try.func18, Try.ntmps18
    go_wp2_with fail
    refine (HM _ (below3 w _ _ _)).out.mono ?_
    rintro e w4 ⟨rfl, hb4⟩
    have hB' := hb4.mono (by simp : w.heap.size + 1 + 1 + 1 ≤ _)
    obtain ⟨⟨hk0, hk1, hk2, hk3⟩, ⟨ho0, ho1, ho2⟩, ⟨hr0, hr1, hr2, hr3⟩, ⟨hz2, hz3⟩, hf0, hf1, hf2, hf3⟩ := step_open hB'
    have HB := Lib.hid hB'
    clear hb4 hB'
    go_wp2_with fail
  · refine bodyPost_ret (v := .tuple #[.agg #[.int .i64 k, .slice a n c, .bool b, .int .i64 t], .int .i64 0]) ?_ rfl ?_
    · simp [results, Try.results18, go_sem, hr0, hr1, hr2, hr3]
    · exact StepP.weak (stepp_same HX.out (below_res ((below3 w _ _ _).trans (HB.out.mono (by omega))) _ (by omega) _ _ _ _))
  · refine bodyPost_ret (v := .tuple #[.agg #[.int .i64 k, .slice a n c, .bool true, .int .i64 t], .int .i64 (-1125899906842624)]) ?_ rfl ?_
    · simp [results, Try.results18, go_sem, hr0, hr1, hr2, hr3]
    · exact StepP.weak (stepp_same HX.out (below_res ((below3 w _ _ _).trans (HB.out.mono (by omega))) _ (by omega) _ _ _ _))

set_option maxRecDepth 100000 in
set_option maxHeartbeats 6400000 in
theorem r_step_seal {w : World} {n c : Nat} {a : Option Addr} {L : List Int} {k t t' oa ob : Int} (HX : Hid (Rd w (.slice a n c) L))
    (HM : ∀ W, Below w.heap.size w W → Hid (Calls Try.prog 42 #[.agg #[.int .i64 k, .slice a n c, .bool false, .int .i64 t]] W (Tells W true)))
    (h : (¬ 0 ≤ oa ∧ t' = t) ∨ (0 ≤ oa ∧ ¬ oa ≤ 2 ∧ t' = t) ∨ (0 ≤ oa ∧ oa ≤ 2 ∧ t' = oa)) :
    Calls Try.prog 18 #[.agg #[.int .i64 k, .slice a n c, .bool false, .int .i64 t], .agg #[.int .i64 10, .int .i64 oa, .int .i64 ob]] w (StepQ w (.slice a n c) ((⟨k, L, true, t'⟩ : St), 0)) := by
  rcases h with ⟨h1, rfl⟩ | ⟨h1, h2, rfl⟩ | ⟨h1, h2, rfl⟩
  all_goals
    go_enter Try.func18, Try.ntmps18
    go_wp2_with fail
    refine (HM _ (below3 w _ _ _)).out.mono ?_
    rintro e w4 ⟨rfl, hb4⟩
    have hB' := hb4.mono (by simp : w.heap.size + 1 + 1 + 1 ≤ _)
    obtain ⟨⟨hk0, hk1, hk2, hk3⟩, ⟨ho0, ho1, ho2⟩, ⟨hr0, hr1, hr2, hr3⟩, ⟨hz2, hz3⟩, hf0, hf1, hf2, hf3⟩ := step_open hB'
    have HB := Lib.hid hB'
    clear hb4 hB'
    go_wp2_with fail
    refine bodyPost_ret (v := .tuple #[.agg #[.int .i64 k, .slice a n c, .bool true, .int .i64 t'], .int .i64 0]) ?_ rfl ?_
    · simp [results, Try.results18, go_sem, hr0, hr1, hr2, hr3]
    · have hB := (below3 w _ _ _).trans (HB.out.mono (by omega))
      have g1 := fun (v1 v2 v3 v4 v5 : Value) => hB.trans ((seal_keeps' w4 w.heap.size (w.heap.size + 1 + 1) v1 v2 v3 v4 v5).below (B := w.heap.size) (by rintro k (rfl | rfl) <;> omega) hB.size)
      have g2 := fun (v1 v2 v3 v4 v5 v6 : Value) => hB.trans ((seal_keeps w4 w.heap.size (w.heap.size + 1 + 1) v1 v2 v3 v4 v5 v6).below (B := w.heap.size) (by rintro k (rfl | rfl) <;> omega) hB.size)
      refine StepP.weak (stepp_same HX.out ?_)
      first
        | with_reducible exact g1 _ _ _ _ _
        | with_reducible exact g2 _ _ _ _ _ _

set_option maxRecDepth 100000 in
set_option maxHeartbeats 6400000 in
theorem r_step_do {w : World} {n c : Nat} {a : Option Addr} {L : List Int} {k t co oa ob : Int} {r : St × Int} (HX : Hid (Rd w (.slice a n c) L))
    (HM : ∀ W, Below w.heap.size w W → Hid (Calls Try.prog 42 #[.agg #[.int .i64 k, .slice a n c, .bool false, .int .i64 t]] W (Tells W true)))
    (g : (co == 10) = false) (f : FuncId)
    (hf : ((k = 0 ∨ k = 1) ∧ f = 43) ∨ ((k = 2 ∨ k = 3) ∧ f = 44) ∨ (k = 4 ∧ f = 45) ∨ (k = 5 ∧ f = 46))
    (HS : ∀ W, Below w.heap.size w W → Hid (Calls Try.prog f #[.agg #[.int .i64 k, .slice a n c, .bool false, .int .i64 t], .agg #[.int .i64 co, .int .i64 oa, .int .i64 ob]] W (StepQ W (.slice a n c) r))) :
    Calls Try.prog 18 #[.agg #[.int .i64 k, .slice a n c, .bool false, .int .i64 t], .agg #[.int .i64 co, .int .i64 oa, .int .i64 ob]] w (StepQ w (.slice a n c) r) := by
  rcases hf with ⟨rfl | rfl, rfl⟩ | ⟨rfl | rfl, rfl⟩ | ⟨rfl, rfl⟩ | ⟨rfl, rfl⟩
  · skip
    go_enter Try.func18, Try.ntmps18
    go_wp2_with fail
    refine (HM _ (below3 w _ _ _)).out.mono ?_
    rintro e w4 ⟨rfl, hb4⟩
    have hB' := hb4.mono (by simp : w.heap.size + 1 + 1 + 1 ≤ _)
    have hzz : w.heap.size + 1 + 1 + 1 ≤ w4.heap.size := by simpa using hB'.size
    obtain ⟨⟨hk0, hk1, hk2, hk3⟩, ⟨ho0, ho1, ho2⟩, ⟨hr0, hr1, hr2, hr3⟩, ⟨hz2, hz3⟩, hf0, hf1, hf2, hf3⟩ := step_open hB'
    have hzl0 : w.heap.size < w4.heap.size := by omega
    have hzl1 : w.heap.size + 1 < w4.heap.size := by omega
    have HB := Lib.hid hB'
    have HBw : Hid (Below w.heap.size w w4) := Lib.hid ((below3 w _ _ _).trans (hB'.mono (by omega)))
    clear hb4 hB'
    go_wp2_with fail
    have hW : Below w.heap.size w (w4.alloc (.cells #[.int .i64 0, .slice a n c, .bool false, .int .i64 t] 24)) := HBw.out.alloc HBw.out.size _
    have bD := Blk.new w4 #[.int .i64 0, .slice a n c, .bool false, .int .i64 t] 24
    refine (HS _ hW).out.mono ?_
    rintro e w5 ⟨v5, rfl, hrd, hb5, hor⟩
    obtain ⟨a4, c4, rfl, _⟩ := id hrd
    clear hk0 hk1 hk2 hk3 ho0 ho1 ho2 hr0 hr1 hr2 hr3 hz2 hz3 hf0 hf1 hf2 hf3 hzl0 hzl1
    have hB5 := (HB.out.alloc hzz (.cells #[.int .i64 0, .slice a n c, .bool false, .int .i64 t] 24)).trans (hb5.mono (by simp; omega))
    obtain ⟨⟨hk0, hk1, hk2, hk3⟩, ⟨ho0, ho1, ho2⟩, ⟨hr0, hr1, hr2, hr3⟩, ⟨hz2, hz3⟩, hf0, hf1, hf2, hf3⟩ := step_open hB5
    have bE := bD.below hb5 bD.lt
    have hd0 := bE.cell 0
    have hd1 := bE.cell 1
    have hd2 := bE.cell 2
    have hd3 := bE.cell 3
    simp at hd0 hd1 hd2 hd3
    have he0 := bE.frozen 0
    have he1 := bE.frozen 1
    have he2 := bE.frozen 2
    have he3 := bE.frozen 3
    have hne : w.heap.size + 1 + 1 ≠ w4.heap.size := by omega
    have hne' : w4.heap.size ≠ w.heap.size + 1 + 1 := by omega
    have HB5 := Lib.hid hb5
    have HR := Lib.hid hrd
    have HO := Lib.hid hor
    have HWW := Lib.hid hW
    clear hB5 hb5 hrd hor hk0 hk1 hk2 hk3 ho0 ho1 ho2 hz2 hz3 bD bE hW
    obtain ⟨⟨k', L', b', t'⟩, m'⟩ := r
    go_wp2_with fail
    refine bodyPost_ret (v := .tuple #[.agg #[.int .i64 k', .slice a4 L'.length c4, .bool b', .int .i64 t'], .int .i64 m']) ?_ rfl ?_
    · simp [results, Try.results18, go_sem, hr0, hr1, hr2, hr3]
    · refine stepq_pass (r := (⟨k', L', b', t'⟩, m')) HX.out HWW.out HR.out HB5.out HO.out (two_keeps w5 _ _ _ _ _ _ _ _ _ _) ?_
      rintro k (rfl | rfl) <;> simp <;> omega
  · skip
    go_enter Try.func18, Try.ntmps18
    go_wp2_with fail
    refine (HM _ (below3 w _ _ _)).out.mono ?_
    rintro e w4 ⟨rfl, hb4⟩
    have hB' := hb4.mono (by simp : w.heap.size + 1 + 1 + 1 ≤ _)
    have hzz : w.heap.size + 1 + 1 + 1 ≤ w4.heap.size := by simpa using hB'.size
    obtain ⟨⟨hk0, hk1, hk2, hk3⟩, ⟨ho0, ho1, ho2⟩, ⟨hr0, hr1, hr2, hr3⟩, ⟨hz2, hz3⟩, hf0, hf1, hf2, hf3⟩ := step_open hB'
    have hzl0 : w.heap.size < w4.heap.size := by omega
    have hzl1 : w.heap.size + 1 < w4.heap.size := by omega
    have HB := Lib.hid hB'
    have HBw : Hid (Below w.heap.size w w4) := Lib.hid ((below3 w _ _ _).trans (hB'.mono (by omega)))
    clear hb4 hB'
    go_wp2_with fail
    have hW : Below w.heap.size w (w4.alloc (.cells #[.int .i64 1, .slice a n c, .bool false, .int .i64 t] 24)) := HBw.out.alloc HBw.out.size _
    have bD := Blk.new w4 #[.int .i64 1, .slice a n c, .bool false, .int .i64 t] 24
    refine (HS _ hW).out.mono ?_
    rintro e w5 ⟨v5, rfl, hrd, hb5, hor⟩
    obtain ⟨a4, c4, rfl, _⟩ := id hrd
    clear hk0 hk1 hk2 hk3 ho0 ho1 ho2 hr0 hr1 hr2 hr3 hz2 hz3 hf0 hf1 hf2 hf3 hzl0 hzl1
    have hB5 := (HB.out.alloc hzz (.cells #[.int .i64 1, .slice a n c, .bool false, .int .i64 t] 24)).trans (hb5.mono (by simp; omega))
    obtain ⟨⟨hk0, hk1, hk2, hk3⟩, ⟨ho0, ho1, ho2⟩, ⟨hr0, hr1, hr2, hr3⟩, ⟨hz2, hz3⟩, hf0, hf1, hf2, hf3⟩ := step_open hB5
    have bE := bD.below hb5 bD.lt
    have hd0 := bE.cell 0
    have hd1 := bE.cell 1
    have hd2 := bE.cell 2
    have hd3 := bE.cell 3
    simp at hd0 hd1 hd2 hd3
    have he0 := bE.frozen 0
    have he1 := bE.frozen 1
    have he2 := bE.frozen 2
    have he3 := bE.frozen 3
    have hne : w.heap.size + 1 + 1 ≠ w4.heap.size := by omega
    have hne' : w4.heap.size ≠ w.heap.size + 1 + 1 := by omega
    have HB5 := Lib.hid hb5
    have HR := Lib.hid hrd
    have HO := Lib.hid hor
    have HWW := Lib.hid hW
    clear hB5 hb5 hrd hor hk0 hk1 hk2 hk3 ho0 ho1 ho2 hz2 hz3 bD bE hW
    obtain ⟨⟨k', L', b', t'⟩, m'⟩ := r
    go_wp2_with fail
    refine bodyPost_ret (v := .tuple #[.agg #[.int .i64 k', .slice a4 L'.length c4, .bool b', .int .i64 t'], .int .i64 m']) ?_ rfl ?_
    · simp [results, Try.results18, go_sem, hr0, hr1, hr2, hr3]
    · refine stepq_pass (r := (⟨k', L', b', t'⟩, m')) HX.out HWW.out HR.out HB5.out HO.out (two_keeps w5 _ _ _ _ _ _ _ _ _ _) ?_
      rintro k (rfl | rfl) <;> simp <;> omega
  · skip
    go_enter Try.func18, Try.ntmps18
    go_wp2_with fail
    refine (HM _ (below3 w _ _ _)).out.mono ?_
    rintro e w4 ⟨rfl, hb4⟩
    have hB' := hb4.mono (by simp : w.heap.size + 1 + 1 + 1 ≤ _)
    have hzz : w.heap.size + 1 + 1 + 1 ≤ w4.heap.size := by simpa using hB'.size
    obtain ⟨⟨hk0, hk1, hk2, hk3⟩, ⟨ho0, ho1, ho2⟩, ⟨hr0, hr1, hr2, hr3⟩, ⟨hz2, hz3⟩, hf0, hf1, hf2, hf3⟩ := step_open hB'
    have hzl0 : w.heap.size < w4.heap.size := by omega
    have hzl1 : w.heap.size + 1 < w4.heap.size := by omega
    have HB := Lib.hid hB'
    have HBw : Hid (Below w.heap.size w w4) := Lib.hid ((below3 w _ _ _).trans (hB'.mono (by omega)))
    clear hb4 hB'
    go_wp2_with fail
    have hW : Below w.heap.size w (w4.alloc (.cells #[.int .i64 2, .slice a n c, .bool false, .int .i64 t] 24)) := HBw.out.alloc HBw.out.size _
    have bD := Blk.new w4 #[.int .i64 2, .slice a n c, .bool false, .int .i64 t] 24
    refine (HS _ hW).out.mono ?_
    rintro e w5 ⟨v5, rfl, hrd, hb5, hor⟩
    obtain ⟨a4, c4, rfl, _⟩ := id hrd
    clear hk0 hk1 hk2 hk3 ho0 ho1 ho2 hr0 hr1 hr2 hr3 hz2 hz3 hf0 hf1 hf2 hf3 hzl0 hzl1
    have hB5 := (HB.out.alloc hzz (.cells #[.int .i64 2, .slice a n c, .bool false, .int .i64 t] 24)).trans (hb5.mono (by simp; omega))
    obtain ⟨⟨hk0, hk1, hk2, hk3⟩, ⟨ho0, ho1, ho2⟩, ⟨hr0, hr1, hr2, hr3⟩, ⟨hz2, hz3⟩, hf0, hf1, hf2, hf3⟩ := step_open hB5
    have bE := bD.below hb5 bD.lt
    have hd0 := bE.cell 0
    have hd1 := bE.cell 1
    have hd2 := bE.cell 2
    have hd3 := bE.cell 3
    simp at hd0 hd1 hd2 hd3
    have he0 := bE.frozen 0
    have he1 := bE.frozen 1
    have he2 := bE.frozen 2
    have he3 := bE.frozen 3
    have hne : w.heap.size + 1 + 1 ≠ w4.heap.size := by omega
    have hne' : w4.heap.size ≠ w.heap.size + 1 + 1 := by omega
    have HB5 := Lib.hid hb5
    have HR := Lib.hid hrd
    have HO := Lib.hid hor
    have HWW := Lib.hid hW
    clear hB5 hb5 hrd hor hk0 hk1 hk2 hk3 ho0 ho1 ho2 hz2 hz3 bD bE hW
    obtain ⟨⟨k', L', b', t'⟩, m'⟩ := r
    go_wp2_with fail
    refine bodyPost_ret (v := .tuple #[.agg #[.int .i64 k', .slice a4 L'.length c4, .bool b', .int .i64 t'], .int .i64 m']) ?_ rfl ?_
    · simp [results, Try.results18, go_sem, hr0, hr1, hr2, hr3]
    · refine stepq_pass (r := (⟨k', L', b', t'⟩, m')) HX.out HWW.out HR.out HB5.out HO.out (two_keeps w5 _ _ _ _ _ _ _ _ _ _) ?_
      rintro k (rfl | rfl) <;> simp <;> omega
  · skip
    go_enter Try.func18, Try.ntmps18
    go_wp2_with fail
    refine (HM _ (below3 w _ _ _)).out.mono ?_
    rintro e w4 ⟨rfl, hb4⟩
    have hB' := hb4.mono (by simp : w.heap.size + 1 + 1 + 1 ≤ _)
    have hzz : w.heap.size + 1 + 1 + 1 ≤ w4.heap.size := by simpa using hB'.size
    obtain ⟨⟨hk0, hk1, hk2, hk3⟩, ⟨ho0, ho1, ho2⟩, ⟨hr0, hr1, hr2, hr3⟩, ⟨hz2, hz3⟩, hf0, hf1, hf2, hf3⟩ := step_open hB'
    have hzl0 : w.heap.size < w4.heap.size := by omega
    have hzl1 : w.heap.size + 1 < w4.heap.size := by omega
    have HB := Lib.hid hB'
    have HBw : Hid (Below w.heap.size w w4) := Lib.hid ((below3 w _ _ _).trans (hB'.mono (by omega)))
    clear hb4 hB'
    go_wp2_with fail
    have hW : Below w.heap.size w (w4.alloc (.cells #[.int .i64 3, .slice a n c, .bool false, .int .i64 t] 24)) := HBw.out.alloc HBw.out.size _
    have bD := Blk.new w4 #[.int .i64 3, .slice a n c, .bool false, .int .i64 t] 24
    refine (HS _ hW).out.mono ?_
    rintro e w5 ⟨v5, rfl, hrd, hb5, hor⟩
    obtain ⟨a4, c4, rfl, _⟩ := id hrd
    clear hk0 hk1 hk2 hk3 ho0 ho1 ho2 hr0 hr1 hr2 hr3 hz2 hz3 hf0 hf1 hf2 hf3 hzl0 hzl1
    have hB5 := (HB.out.alloc hzz (.cells #[.int .i64 3, .slice a n c, .bool false, .int .i64 t] 24)).trans (hb5.mono (by simp; omega))
    obtain ⟨⟨hk0, hk1, hk2, hk3⟩, ⟨ho0, ho1, ho2⟩, ⟨hr0, hr1, hr2, hr3⟩, ⟨hz2, hz3⟩, hf0, hf1, hf2, hf3⟩ := step_open hB5
    have bE := bD.below hb5 bD.lt
    have hd0 := bE.cell 0
    have hd1 := bE.cell 1
    have hd2 := bE.cell 2
    have hd3 := bE.cell 3
    simp at hd0 hd1 hd2 hd3
    have he0 := bE.frozen 0
    have he1 := bE.frozen 1
    have he2 := bE.frozen 2
    have he3 := bE.frozen 3
    have hne : w.heap.size + 1 + 1 ≠ w4.heap.size := by omega
    have hne' : w4.heap.size ≠ w.heap.size + 1 + 1 := by omega
    have HB5 := Lib.hid hb5
    have HR := Lib.hid hrd
    have HO := Lib.hid hor
    have HWW := Lib.hid hW
    clear hB5 hb5 hrd hor hk0 hk1 hk2 hk3 ho0 ho1 ho2 hz2 hz3 bD bE hW
    obtain ⟨⟨k', L', b', t'⟩, m'⟩ := r
    go_wp2_with fail
    refine bodyPost_ret (v := .tuple #[.agg #[.int .i64 k', .slice a4 L'.length c4, .bool b', .int .i64 t'], .int .i64 m']) ?_ rfl ?_
    · simp [results, Try.results18, go_sem, hr0, hr1, hr2, hr3]
    · refine stepq_pass (r := (⟨k', L', b', t'⟩, m')) HX.out HWW.out HR.out HB5.out HO.out (two_keeps w5 _ _ _ _ _ _ _ _ _ _) ?_
      rintro k (rfl | rfl) <;> simp <;> omega
  · skip
    go_enter Try.func18, Try.ntmps18
    go_wp2_with fail
    refine (HM _ (below3 w _ _ _)).out.mono ?_
    rintro e w4 ⟨rfl, hb4⟩
    have hB' := hb4.mono (by simp : w.heap.size + 1 + 1 + 1 ≤ _)
    have hzz : w.heap.size + 1 + 1 + 1 ≤ w4.heap.size := by simpa using hB'.size
    obtain ⟨⟨hk0, hk1, hk2, hk3⟩, ⟨ho0, ho1, ho2⟩, ⟨hr0, hr1, hr2, hr3⟩, ⟨hz2, hz3⟩, hf0, hf1, hf2, hf3⟩ := step_open hB'
    have hzl0 : w.heap.size < w4.heap.size := by omega
    have hzl1 : w.heap.size + 1 < w4.heap.size := by omega
    have HB := Lib.hid hB'
    have HBw : Hid (Below w.heap.size w w4) := Lib.hid ((below3 w _ _ _).trans (hB'.mono (by omega)))
    clear hb4 hB'
    go_wp2_with fail
    have hW : Below w.heap.size w (w4.alloc (.cells #[.int .i64 4, .slice a n c, .bool false, .int .i64 t] 24)) := HBw.out.alloc HBw.out.size _
    have bD := Blk.new w4 #[.int .i64 4, .slice a n c, .bool false, .int .i64 t] 24
    refine (HS _ hW).out.mono ?_
    rintro e w5 ⟨v5, rfl, hrd, hb5, hor⟩
    obtain ⟨a4, c4, rfl, _⟩ := id hrd
    clear hk0 hk1 hk2 hk3 ho0 ho1 ho2 hr0 hr1 hr2 hr3 hz2 hz3 hf0 hf1 hf2 hf3 hzl0 hzl1
    have hB5 := (HB.out.alloc hzz (.cells #[.int .i64 4, .slice a n c, .bool false, .int .i64 t] 24)).trans (hb5.mono (by simp; omega))
    obtain ⟨⟨hk0, hk1, hk2, hk3⟩, ⟨ho0, ho1, ho2⟩, ⟨hr0, hr1, hr2, hr3⟩, ⟨hz2, hz3⟩, hf0, hf1, hf2, hf3⟩ := step_open hB5
    have bE := bD.below hb5 bD.lt
    have hd0 := bE.cell 0
    have hd1 := bE.cell 1
    have hd2 := bE.cell 2
    have hd3 := bE.cell 3
    simp at hd0 hd1 hd2 hd3
    have he0 := bE.frozen 0
    have he1 := bE.frozen 1
    have he2 := bE.frozen 2
    have he3 := bE.frozen 3
    have hne : w.heap.size + 1 + 1 ≠ w4.heap.size := by omega
    have hne' : w4.heap.size ≠ w.heap.size + 1 + 1 := by omega
    have HB5 := Lib.hid hb5
    have HR := Lib.hid hrd
    have HO := Lib.hid hor
    have HWW := Lib.hid hW
    clear hB5 hb5 hrd hor hk0 hk1 hk2 hk3 ho0 ho1 ho2 hz2 hz3 bD bE hW
    obtain ⟨⟨k', L', b', t'⟩, m'⟩ := r
    go_wp2_with fail
    refine bodyPost_ret (v := .tuple #[.agg #[.int .i64 k', .slice a4 L'.length c4, .bool b', .int .i64 t'], .int .i64 m']) ?_ rfl ?_
    · simp [results, Try.results18, go_sem, hr0, hr1, hr2, hr3]
    · refine stepq_pass (r := (⟨k', L', b', t'⟩, m')) HX.out HWW.out HR.out HB5.out HO.out (two_keeps w5 _ _ _ _ _ _ _ _ _ _) ?_
      rintro k (rfl | rfl) <;> simp <;> omega
  · skip
    go_enter Try.func18, Try.ntmps18
    go_wp2_with fail
    refine (HM _ (below3 w _ _ _)).out.mono ?_
    rintro e w4 ⟨rfl, hb4⟩
    have hB' := hb4.mono (by simp : w.heap.size + 1 + 1 + 1 ≤ _)
    have hzz : w.heap.size + 1 + 1 + 1 ≤ w4.heap.size := by simpa using hB'.size
    obtain ⟨⟨hk0, hk1, hk2, hk3⟩, ⟨ho0, ho1, ho2⟩, ⟨hr0, hr1, hr2, hr3⟩, ⟨hz2, hz3⟩, hf0, hf1, hf2, hf3⟩ := step_open hB'
    have hzl0 : w.heap.size < w4.heap.size := by omega
    have hzl1 : w.heap.size + 1 < w4.heap.size := by omega
    have HB := Lib.hid hB'
    have HBw : Hid (Below w.heap.size w w4) := Lib.hid ((below3 w _ _ _).trans (hB'.mono (by omega)))
    clear hb4 hB'
    go_wp2_with fail
    have hW : Below w.heap.size w (w4.alloc (.cells #[.int .i64 5, .slice a n c, .bool false, .int .i64 t] 24)) := HBw.out.alloc HBw.out.size _
    have bD := Blk.new w4 #[.int .i64 5, .slice a n c, .bool false, .int .i64 t] 24
    refine (HS _ hW).out.mono ?_
    rintro e w5 ⟨v5, rfl, hrd, hb5, hor⟩
    obtain ⟨a4, c4, rfl, _⟩ := id hrd
    clear hk0 hk1 hk2 hk3 ho0 ho1 ho2 hr0 hr1 hr2 hr3 hz2 hz3 hf0 hf1 hf2 hf3 hzl0 hzl1
    have hB5 := (HB.out.alloc hzz (.cells #[.int .i64 5, .slice a n c, .bool false, .int .i64 t] 24)).trans (hb5.mono (by simp; omega))
    obtain ⟨⟨hk0, hk1, hk2, hk3⟩, ⟨ho0, ho1, ho2⟩, ⟨hr0, hr1, hr2, hr3⟩, ⟨hz2, hz3⟩, hf0, hf1, hf2, hf3⟩ := step_open hB5
    have bE := bD.below hb5 bD.lt
    have hd0 := bE.cell 0
    have hd1 := bE.cell 1
    have hd2 := bE.cell 2
    have hd3 := bE.cell 3
    simp at hd0 hd1 hd2 hd3
    have he0 := bE.frozen 0
    have he1 := bE.frozen 1
    have he2 := bE.frozen 2
    have he3 := bE.frozen 3
    have hne : w.heap.size + 1 + 1 ≠ w4.heap.size := by omega
    have hne' : w4.heap.size ≠ w.heap.size + 1 + 1 := by omega
    have HB5 := Lib.hid hb5
    have HR := Lib.hid hrd
    have HO := Lib.hid hor
    have HWW := Lib.hid hW
    clear hB5 hb5 hrd hor hk0 hk1 hk2 hk3 ho0 ho1 ho2 hz2 hz3 bD bE hW
    obtain ⟨⟨k', L', b', t'⟩, m'⟩ := r
    go_wp2_with fail
    refine bodyPost_ret (v := .tuple #[.agg #[.int .i64 k', .slice a4 L'.length c4, .bool b', .int .i64 t'], .int .i64 m']) ?_ rfl ?_
    · simp [results, Try.results18, go_sem, hr0, hr1, hr2, hr3]
    · refine stepq_pass (r := (⟨k', L', b', t'⟩, m')) HX.out HWW.out HR.out HB5.out HO.out (two_keeps w5 _ _ _ _ _ _ _ _ _ _) ?_
      rintro k (rfl | rfl) <;> simp <;> omega

theorem r_step {w : World} {vl : Value} (s : St) (o : Op3) (hx : Rd w vl s.L) :
    Calls Try.prog 18 #[.agg #[.int .i64 s.kind, vl, .bool s.isSealed, .int .i64 s.to], .agg #[.int .i64 o.code, .int .i64 o.a, .int .i64 o.b]] w (StepQ w vl (stepS s o)) := by
  have HM := fun W (hB : Below w.heap.size w W) => Lib.hid (r_may (w := W) s (hx.below hB (Nat.le_refl _)))
  have HX := Lib.hid hx
  obtain ⟨a, c, rfl, _⟩ := id hx
  by_cases hm : mayB s = false
  · have hr : stepS s o = (s, 0) := by unfold stepS; rw [if_pos hm]
    rw [hr]
    rw [hm] at HM
    exact r_step_no HX HM (.inl ⟨rfl, rfl⟩)
  have hm' : mayB s = true := by simpa using hm
  rw [hm'] at HM
  by_cases hs : s.isSealed = true
  · have hr : stepS s o = (s, -1125899906842624) := by unfold stepS; rw [if_neg hm, if_pos hs]
    rw [hr]
    exact r_step_no HX HM (.inr ⟨rfl, hs, rfl⟩)
  have hs' : s.isSealed = false := by simpa using hs
  by_cases hc : o.code = 10
  · have hr : stepS s o = ({ s with isSealed := true, to := if 0 ≤ o.a ∧ o.a < 3 then o.a else s.to }, 0) := by unfold stepS; rw [if_neg hm, if_neg hs, if_pos hc]
    rw [hr]
    rw [hs'] at HM ⊢
    rw [hc]
    refine r_step_seal HX HM ?_
    by_cases h1 : 0 ≤ o.a
    · by_cases h2 : o.a < 3
      · exact .inr (.inr ⟨h1, by omega, by simp [h1, h2]⟩)
      · exact .inr (.inl ⟨h1, by omega, by simp [h2]⟩)
    · exact .inl ⟨h1, by simp [h1]⟩
  have g : (o.code == 10) = false := by simpa using hc
  have key : ∀ (f : FuncId) (r : St × Int), (((s.kind = 0 ∨ s.kind = 1) ∧ f = 43) ∨ ((s.kind = 2 ∨ s.kind = 3) ∧ f = 44) ∨ (s.kind = 4 ∧ f = 45) ∨ (s.kind = 5 ∧ f = 46)) →
      (∀ W, Below w.heap.size w W → Hid (Calls Try.prog f #[.agg #[.int .i64 s.kind, .slice a s.L.length c, .bool s.isSealed, .int .i64 s.to], .agg #[.int .i64 o.code, .int .i64 o.a, .int .i64 o.b]] W (StepQ W (.slice a s.L.length c) r))) → stepS s o = r →
      Calls Try.prog 18 #[.agg #[.int .i64 s.kind, .slice a s.L.length c, .bool s.isSealed, .int .i64 s.to], .agg #[.int .i64 o.code, .int .i64 o.a, .int .i64 o.b]] w (StepQ w (.slice a s.L.length c) (stepS s o)) := by
    intro f r hf hS hr
    rw [hr]
    rw [hs'] at HM hS ⊢
    exact r_step_do HX HM g f hf hS
  rcases may_kind hm' with hk | hk | hk | hk
  · exact key _ (numberS s o) (.inl ⟨hk, rfl⟩) (fun W hB => Lib.hid ((r_one s o (hx.below hB (Nat.le_refl _)) hk hm').mono fun _ _ h => h.weak)) (by unfold stepS; rw [if_neg hm, if_neg hs, if_neg hc, if_pos hk])
  · exact key _ (lineS s o) (.inr (.inl ⟨hk, rfl⟩)) (fun W hB => Lib.hid (r_list s o (hx.below hB (Nat.le_refl _)) hk hm')) (by unfold stepS; rw [if_neg hm, if_neg hs, if_neg hc, if_neg (by omega), if_pos hk])
  · exact key _ (storeS s o) (.inr (.inr (.inl ⟨hk, rfl⟩))) (fun W hB => Lib.hid (r_store s o (hx.below hB (Nat.le_refl _)) hk hm')) (by unfold stepS; rw [if_neg hm, if_neg hs, if_neg hc, if_neg (by omega), if_neg (by omega), if_pos hk])
  · exact key _ (ledgerS s o) (.inr (.inr (.inr ⟨hk, rfl⟩))) (fun W hB => Lib.hid (r_ledger s o (hx.below hB (Nat.le_refl _)) hk hm')) (by unfold stepS; rw [if_neg hm, if_neg hs, if_neg hc, if_neg (by omega), if_neg (by omega), if_neg (by omega)])
end Go.Proofs.Ytjfenjnnpikkdaa
