/-
  Package slices at []int: Delete, Insert, on a row of the program's own.
-/
import Derived.Test.YtaoagaokocnehaaSl
namespace Go.Proofs.Ytaoagaokocnehaa
set_option linter.unusedVariables false
set_option linter.unusedSimpArgs false
open Go.RowKit

theorem zeroInt (w : World) : (zeroValue 3).run Try.prog w = .ok (.int .i64 0) w := by kernel_rfl

/-- What Delete leaves. -/
def DelP (w : World) (g n cap i j : Nat) (xs : List Int) (e : Ending) (w' : World) : Prop :=
  e = .returned (.slice (some ⟨g, 0, none⟩) (i + (n - j)) cap) ∧ Own w' 3 1 (.slice (some ⟨g, 0, none⟩) (i + (n - j)) cap) (i + (n - j)) (ints (xs.take i ++ xs.drop j)) ∧ Keeps (fun k => k = g) w w'

theorem row_news {w : World} {e : TypeId} {g : Nat} {cur : List Value} (h : RowAt w e g cur) (o : Nat) (news : List Value) (hn : ∀ t, t < news.length → cur[o + t]? = news[t]?) : ∀ t u, news[t]? = some u → w.cell? ((⟨g, o, none⟩ : Addr).add t) = some u := by
  intro t u hu
  have ht := (List.getElem?_eq_some_iff.1 hu).1
  rw [show (⟨g, o, none⟩ : Addr).add t = ⟨g, o + t, none⟩ by unfold Addr.add; split <;> simp_all, h.cell (o + t), hn t ht]
  exact hu

set_option maxHeartbeats 1600000 in
theorem sl_delete {w : World} {g n cap : Nat} {xs : List Int} (h : Own w 3 1 (.slice (some ⟨g, 0, none⟩) n cap) n (ints xs)) (i j : Nat) (hij : i < j) (hj : j ≤ n) :
    Calls Try.prog 43 #[.slice (some ⟨g, 0, none⟩) n cap, .int .i64 i, .int .i64 j] w (DelP w g n cap i j xs) := by
  obtain ⟨i0, hi, hz0, hz1, hz2⟩ := info_parts infoInt
  obtain ⟨_, hnc, hcm, hxl, rest, hrow, hrl⟩ := own_row h
  have hxl' : xs.length = n := by simpa [ints] using hxl
  simp only [maxLen] at hcm
  have hcm' : cap ≤ 9223372036854775807 := by omega
  -- the source of the append
  obtain ⟨A, hA, hsrc⟩ : ∃ A : Addr, (if cap = j then some (⟨g, 0, none⟩ : Addr) else some ⟨g, j, none⟩) = some A ∧ Hid (∀ t u, (ints (xs.drop j))[t]? = some u → w.drew.cell? (A.add t) = some u) := by
    by_cases hcj : cap = j
    · refine ⟨⟨g, 0, none⟩, by simp [hcj], fun t u hu => ?_⟩
      have h0 : xs.drop j = [] := List.drop_eq_nil_of_le (by omega)
      rw [h0] at hu
      simp [ints] at hu
    · refine ⟨⟨g, j, none⟩, by simp [hcj], fun t u hu => ?_⟩
      have ht : t < n - j := by
        have := (List.getElem?_eq_some_iff.1 hu).1
        simp [ints] at this
        omega
      rw [show (⟨g, j, none⟩ : Addr).add t = ⟨g, j + t, none⟩ by unfold Addr.add; split <;> simp_all]
      have := hrow.drew.cell (j + t)
      rw [this, List.getElem?_append_left (by simp [ints]; omega)]
      rw [← hu]
      simp [ints]
  obtain ⟨L1, hL1⟩ : ∃ L1 : List Value, L1 = (ints xs ++ rest).take i ++ ints (xs.drop j) ++ (ints xs ++ rest).drop (i + (n - j)) := ⟨_, rfl⟩
  obtain ⟨L2, hL2⟩ : ∃ L2 : List Value, L2 = L1.take (i + (n - j)) ++ List.replicate (n - (i + (n - j))) (Value.int .i64 0) ++ L1.drop (i + (n - j) + (n - (i + (n - j)))) := ⟨_, rfl⟩
  obtain ⟨W1, hW1⟩ : ∃ W1, W1 = w.drew.setRow g L1.toArray := ⟨_, rfl⟩
  have hap : ∀ ty, (Builtin.append_ #[22, 22] ty #[.slice (some ⟨g, 0, none⟩) i cap, .slice (some A) (n - j) (cap - j)]).run Try.prog w.drew = .ok (.slice (some ⟨g, 0, none⟩) (i + (n - j)) cap) W1 := by
    intro ty
    rw [hW1, hL1]
    exact run_append_row w.drew _ ty _ i0 Try.underlying22 hi hz1 g i cap _ hrow.drew _ (n - j) (ints (xs.drop j)) (by simp [ints]; omega) ⟨_, _, rfl, fun _ => ⟨A, rfl, hsrc.out⟩⟩ (ints_one _) (by omega) (by omega)
  have hr1 : RowAt W1 3 g L1 := by rw [hW1]; exact hrow.drew.set _
  have hl1 : L1.length = cap := by
    rw [hL1]
    simp only [List.length_append, List.length_take, List.length_drop, ints_length] at hrl ⊢
    omega
  have hk1 : Keeps (fun k => k = g) w W1 := by
    rw [hW1]
    exact ((Keeps.refl _ w).drew).trans' (keeps_setRow _ g _)
  have hpre : ∀ tl, ((ints xs ++ rest).take i ++ ints (xs.drop j) ++ tl).take (i + (n - j)) = ints (xs.take i ++ xs.drop j) := by
    intro tl
    have e1 : (ints xs ++ rest).take i = ints (xs.take i) := by
      rw [List.take_append_of_le_length (by rw [ints_length]; omega)]
      simp [ints, List.map_take]
    rw [e1, ← ints_append]
    refine List.take_left' ?_
    simp [ints]
    omega
  have hcl0 : L2.length = cap := by
    rw [hL2]
    simp only [List.length_append, List.length_take, List.length_drop, List.length_replicate, hl1]
    omega
  have hcl : ∀ ty, (Builtin.clear_ #[22] ty #[.slice (some ⟨g, i + (n - j), none⟩) (n - (i + (n - j))) (cap - (i + (n - j)))]).run Try.prog W1 = .ok (.tuple #[]) (W1.setRow g L2.toArray) := fun ty => by
    rw [hL2]
    exact run_clear_row W1 _ ty _ _ Try.underlying22 zeroInt rfl rfl g (i + (n - j)) (n - (i + (n - j))) _ (by omega) _ hr1 (by omega)
  have fin : DelP w g n cap i j xs (.returned (.slice (some ⟨g, 0, none⟩) (i + (n - j)) cap)) (W1.setRow g L2.toArray) := by
    refine ⟨rfl, ?_, hk1.trans' (keeps_setRow _ g _)⟩
    have ho := (hr1.set L2).own (n := i + (n - j)) (cap := cap) (by omega) (by simp only [maxLen]; omega) hcl0
    have he : L2.take (i + (n - j)) = ints (xs.take i ++ xs.drop j) := by
      rw [hL2, List.append_assoc, List.take_left' (by rw [List.length_take, hl1]; omega), hL1, hpre]
    rw [he] at ho
    exact ho
  have HAP := Lib.hid hap
  have HCL := Lib.hid hcl
  have HFIN := Lib.hid fin
  have hic : i ≤ cap := by omega
  have hjc : j ≤ cap := by omega
  have hne : ((i : Int) == j) = false := by simp; omega
  clear hap hcl fin hr1 hl1 hk1 hpre hW1 hrow hrl h hxl hxl' hL1 hL2 hcl0 hsrc
  go_enter Try.func43, Try.ntmps43
  go_wp2_with fail
  go_still_tail 6, (by kernel_rfl)
  change wpList _ _ _ _ _ w.drew
  go_wp2_with (refine wpList_append2 _ rfl _ _ 22 22 rfl _ _ rfl rfl HAP.out ?_; have hcl := HCL.out)
  go_ret
  exact HFIN.out

/-- s[lo:] of a slice of ints. -/
theorem run_low (w : World) (g o len cap lo : Nat) (x : Int) (hx : x = lo) (h : lo ≤ len) (hne : ¬ cap = lo) (hm : len ≤ 9223372036854775807) :
    (Instr.slice 22 (.slice (some ⟨g, o, none⟩) len cap) (some (.int .i64 x)) none none).run Try.prog w = .ok (.slice (some ⟨g, o + lo, none⟩) (len - lo) (cap - lo)) w := by
  subst hx
  go_simp

/-- What Insert of two numbers leaves. -/
def InsP (w : World) (v : Value) (n i : Nat) (xs : List Int) (k m : Int) (e : Ending) (w' : World) : Prop :=
  ∃ v', e = .returned v' ∧ Own w' 3 1 v' (n + 2) (ints (xs.take i ++ [k, m] ++ xs.drop i)) ∧ (v'.ownBlock = v.ownBlock ∨ ∃ b, v'.ownBlock = some b ∧ w.heap.size ≤ b) ∧ Keeps (fun b => v.ownBlock = some b) w w'

set_option maxHeartbeats 1600000 in
theorem sl_insert_end {w : World} {v : Value} {n : Nat} {xs : List Int} (h : Own w 3 1 v n (ints xs)) (gv : Nat) (k m : Int) (hv : Blk w gv #[.int .i64 k, .int .i64 m] 3) (hn : n ≤ 1099511627776) :
    Calls Try.prog 53 #[v, .int .i64 n, .slice (some ⟨gv, 0, none⟩) 2 2] w (InsP w v n n xs k m) := by
  obtain ⟨i0, hi, hz0, hz1, hz2⟩ := info_parts infoInt
  have hxl : xs.length = n := by have := h.1; simpa [ints] using this
  have fin : ∀ v' w1, Own w1 3 1 v' (n + 2) (ints xs ++ [.int .i64 k, .int .i64 m]) → w.grownBy w1 v.ownBlock → (v'.ownBlock = v.ownBlock ∨ v'.ownBlock = some w.heap.size) → InsP w v n n xs k m (.returned v') w1 := by
    intro v' w1 hown hg hat
    refine ⟨v', rfl, ?_, ?_, (Keeps.refl _ w).grown hg (fun b hb => .inl hb)⟩
    · rw [List.take_of_length_le (by omega), List.drop_eq_nil_of_le (by omega), List.append_nil, ints_append]
      exact hown
    · rcases hat with e | e
      · exact .inl e
      · exact .inr ⟨_, e, Nat.le_refl _⟩
  obtain ⟨a, c, rfl⟩ : ∃ a c, v = .slice a n c := by
    rcases h.2 with ⟨rfl, rfl⟩ | ⟨g, cap, cur, rfl, _⟩
    · exact ⟨none, 0, rfl⟩
    · exact ⟨_, cap, rfl⟩
  have hcm : n ≤ c ∧ c ≤ 9223372036854775807 := by
    rcases h.2 with ⟨e, e0⟩ | ⟨g, cap, cur, e, _, _, h1, h2, _⟩
    · simp at e; omega
    · simp only [maxLen] at h2
      simp at e
      omega
  obtain ⟨hc1, hc2⟩ := hcm
  obtain ⟨A1, hq⟩ : ∃ A1, ∀ (w : World), (Instr.slice 22 (.slice a n c) (some (.int .i64 n)) none none).run Try.prog w = .ok (.slice A1 (n - n) (c - n)) w := by
    refine ⟨if c = n then a else a.map (·.add n), ?_⟩
    intro w
    go_simp
    all_goals omega
  have HF := Lib.hid fin
  have HO := Lib.hid h
  have HV := Lib.hid hv.news
  have hnn : ((n : Int) == n) = true := by simp
  clear fin h hv hxl
  go_enter Try.func53, Try.ntmps53
  go_wp2_with (at_builtin; refine wpList_append_own_at _ rfl _ _ 22 rfl 0 3 i0 (.int .i64 0) 1 8 Try.underlying22 hi hz0 hz1 hz2 rfl (by decide) (.slice a n c) _ _ rfl HO.out ⟨gv, 0, none⟩ 2 2 [.int .i64 k, .int .i64 m] rfl (by simp) HV.out (by simp [Value.oneCell']) (by simp only [maxLen]; omega) (by omega) (Nat.zero_le _) ?_; intro v' w1 hown hgrow hnil hat)
  go_ret
  exact HF.out _ _ hown hgrow hat

set_option maxHeartbeats 1600000 in
theorem sl_insert_grow {w : World} {g n cap i : Nat} {xs : List Int} (h : Own w 3 1 (.slice (some ⟨g, 0, none⟩) n cap) n (ints xs)) (gv : Nat) (k m : Int) (hv : Blk w gv #[.int .i64 k, .int .i64 m] 3) (hn : n ≤ 1099511627776) (hin : i < n) (hgr : cap < n + 2) :
    Calls Try.prog 53 #[.slice (some ⟨g, 0, none⟩) n cap, .int .i64 i, .slice (some ⟨gv, 0, none⟩) 2 2] w (InsP w (.slice (some ⟨g, 0, none⟩) n cap) n i xs k m) := by
  obtain ⟨i0, hi, hz0, hz1, hz2⟩ := info_parts infoInt
  obtain ⟨_, hnc, hcm, hxl, rest, hrow, hrl⟩ := own_row h
  have hxl' : xs.length = n := by simpa [ints] using hxl
  have hcm' : cap ≤ 9223372036854775807 := by simp only [maxLen] at hcm; omega
  obtain ⟨C, hC⟩ : ∃ C, C = grownCap w (n + 2) cap 3 := ⟨_, rfl⟩
  have hCge : n + 2 ≤ C := by rw [hC]; exact grownCap_ge _ _ _ _
  have hCle : C ≤ maxLen := by rw [hC]; exact grownCap_le_maxLen w (n + 2) cap 3 (by simp only [maxLen]; omega)
  have hCle' : C ≤ 9223372036854775807 := by simp only [maxLen] at hCle; omega
  obtain ⟨L0, hL0⟩ : ∃ L0 : List Value, L0 = ints (xs.take i) ++ List.replicate (n + 2 - i) (Value.int .i64 0) ++ List.replicate (C - (n + 2)) (Value.int .i64 0) := ⟨_, rfl⟩
  have hl0 : L0.length = C := by rw [hL0]; simp [ints]; omega
  obtain ⟨W1, hW1⟩ : ∃ W1, W1 = w.drew.alloc (.cells L0.toArray 3) := ⟨_, rfl⟩
  have hzc : ∀ q, Builtin.zeroCells (Value.int .i64 0).cells q = Array.replicate q (Value.int .i64 0) := by
    intro q
    apply Array.ext
    · simp [Builtin.zeroCells, Value.cells]
    · intro a b c
      simp [Builtin.zeroCells, Value.cells, Nat.mod_one]
  have hap : ∀ ty, (Builtin.append_ #[22, 3] ty #[.slice (some ⟨g, 0, none⟩) i cap, .int .i64 ((n : Int) + 2 - i)]).run Try.prog w = .ok (.slice (some ⟨w.heap.size, 0, none⟩) (n + 2) C) W1 := by
    intro ty
    have hf : (Builtin.firstCells i0.size i (.slice (some ⟨g, 0, none⟩) i cap)).run Try.prog w.drew = .ok (ints (xs.take i)).toArray w.drew := by
      rw [hz1]
      refine run_firstCells_some w.drew 1 i _ i cap (ints (xs.take i)) (by simp [ints]; omega) (row_news hrow.drew 0 _ ?_)
      intro t ht
      simp only [ints_length, List.length_take] at ht
      rw [List.getElem?_append_left (by rw [ints_length]; omega)]
      simp only [ints, List.getElem?_map, List.getElem?_take, Nat.zero_add]
      rw [if_pos (by omega)]
    have hr := Lib.run_append_grow_zeros (P := Try.prog) w 22 3 ty 3 i0 (.int .i64 0) .i64 .i64 Try.underlying22 Try.underlying3 hi hz0 (some ⟨g, 0, none⟩) i cap (ints (xs.take i)) hf (n + 2 - i) (by omega) (by omega) (by omega) (by omega) (by rw [hz2]; omega) (growslice_fits (by omega) (by rw [hz2]; omega))
    rw [show (n : Int) + 2 - i = ((n + 2 - i : Nat) : Int) by omega, hr, hW1, hL0]
    have e : i + (n + 2 - i) = n + 2 := by omega
    have e3 : ∀ (l : List Value) (z : Value) (q r : Nat), l.toArray ++ Array.replicate q z ++ Array.replicate r z = (l ++ List.replicate q z ++ List.replicate r z).toArray := by
      intro l z q r
      apply Array.ext'
      simp
    simp only [e, hzc, ← hC, e3]
  have hr1 : RowAt W1 3 w.heap.size L0 := by rw [hW1]; exact heap_alloc_new w.drew _
  have hv1 : Blk W1 gv #[.int .i64 k, .int .i64 m] 3 := by rw [hW1]; exact hv.drew.alloc _
  have hrow1 : RowAt W1 3 g (ints xs ++ rest) := by rw [hW1]; exact (Below.heap_alloc _ _ _ hrow.lt).trans hrow
  have hk1 : Keeps (fun b => (Value.slice (some ⟨g, 0, none⟩) n cap).ownBlock = some b) w W1 := by rw [hW1]; exact (Keeps.refl _ w).drew.alloc _
  obtain ⟨L1, hL1⟩ : ∃ L1 : List Value, L1 = L0.take i ++ [.int .i64 k, .int .i64 m] ++ L0.drop (i + 2) := ⟨_, rfl⟩
  have hl1 : L1.length = C := by rw [hL1]; simp; omega
  obtain ⟨W2, hW2⟩ : ∃ W2, W2 = W1.setRow w.heap.size L1.toArray := ⟨_, rfl⟩
  have hc1 : ∀ ty, (Builtin.copy_ #[22, 22] ty #[.slice (some ⟨w.heap.size, i, none⟩) (n + 2 - i) (C - i), .slice (some ⟨gv, 0, none⟩) 2 2]).run Try.prog W1 = .ok (.int .i64 2) W2 := by
    intro ty
    rw [hW2, hL1]
    exact run_copy_row W1 _ ty _ i0 Try.underlying22 hi hz1 w.heap.size i (n + 2 - i) (C - i) L0 hr1 _ 2 2 [.int .i64 k, .int .i64 m] rfl ⟨_, _, rfl, fun _ => ⟨_, rfl, hv1.news⟩⟩ (by simp [Value.oneCell']) (Nat.min_eq_left (by omega)) (by omega)
  have hr2 : RowAt W2 3 w.heap.size L1 := by rw [hW2]; exact hr1.set _
  have hk2 : Keeps (fun b => b = w.heap.size) W1 W2 := by rw [hW2]; exact keeps_setRow _ _ _
  have hrow2 : RowAt W2 3 g (ints xs ++ rest) := hk2.heapSome (by have := hrow.lt; omega) hrow1
  obtain ⟨L2, hL2⟩ : ∃ L2 : List Value, L2 = L1.take (i + 2) ++ ints (xs.drop i) ++ L1.drop (i + 2 + (n - i)) := ⟨_, rfl⟩
  have hl2 : L2.length = C := by rw [hL2]; simp [ints]; omega
  obtain ⟨W3, hW3⟩ : ∃ W3, W3 = W2.drew.setRow w.heap.size L2.toArray := ⟨_, rfl⟩
  have hc2 : ∀ ty, (Builtin.copy_ #[22, 22] ty #[.slice (some ⟨w.heap.size, i + 2, none⟩) (n - i) (C - (i + 2)), .slice (some ⟨g, i, none⟩) (n - i) (cap - i)]).run Try.prog W2.drew = .ok (.int .i64 ((n - i : Nat) : Int)) W3 := by
    intro ty
    rw [hW3, hL2]
    refine run_copy_row W2.drew _ ty _ i0 Try.underlying22 hi hz1 w.heap.size (i + 2) (n - i) (C - (i + 2)) L1 hr2.drew _ (n - i) (n - i) (ints (xs.drop i)) (by simp [ints]; omega) ⟨_, _, rfl, fun _ => ⟨_, rfl, row_news hrow2.drew i _ ?_⟩⟩ (ints_one _) (Nat.min_eq_left (by omega)) (by omega)
    intro t ht
    simp only [ints_length, List.length_drop] at ht
    rw [List.getElem?_append_left (by rw [ints_length]; omega)]
    simp [ints]
  have fin : InsP w (.slice (some ⟨g, 0, none⟩) n cap) n i xs k m (.returned (.slice (some ⟨w.heap.size, 0, none⟩) (n + 2) C)) W3 := by
    have hr3 : RowAt W3 3 w.heap.size L2 := by rw [hW3]; exact hr2.drew.set _
    have ho := hr3.own (n := n + 2) (cap := C) hCge hCle hl2
    have he : L2.take (n + 2) = ints (xs.take i ++ [k, m] ++ xs.drop i) := by
      have e1 : L1.take (i + 2) = ints (xs.take i ++ [k, m]) := by
        rw [hL1, List.take_left' (by simp; omega), hL0, List.append_assoc, List.take_left' (by simp [ints]; omega), ints_append]
        rfl
      rw [hL2, e1, ← ints_append, List.take_left' (by simp [ints]; omega)]
    rw [he] at ho
    refine ⟨_, rfl, ho, .inr ⟨_, rfl, Nat.le_refl _⟩, ?_⟩
    have hk3 : Keeps (fun b => b = w.heap.size) W2 W3 := by rw [hW3]; exact (Keeps.refl _ W2).drew.trans' (keeps_setRow _ _ _)
    exact (hk1.trans hk2 (by rintro b rfl; exact .inr (Nat.le_refl _))).trans hk3 (by rintro b rfl; exact .inr (Nat.le_refl _))
  have HAP := Lib.hid hap
  have HC1 := Lib.hid hc1
  have HC2 := Lib.hid hc2
  have HFIN := Lib.hid fin
  have e1 : ((i : Int) == n) = false := by simp; omega
  have e2 : (n : Int) + 2 > cap := by omega
  have hic : i ≤ cap := by omega
  clear hap hc1 hc2 fin hr1 hl1 hk1 hrow hrl h hxl hxl' hL1 hL2 hL0 hl0 hl2 hr2 hk2 hrow1 hrow2 hv1 hv hzc hW1 hW2 hW3 hC hcm hCle
  go_enter Try.func53, Try.ntmps53
  go_wp2_with (first | (at_builtin; refine wpList_append2 _ rfl _ _ 22 3 rfl (.slice (some ⟨g, 0, none⟩) i cap) (.int .i64 ((n : Int) + 2 - i)) rfl rfl HAP.out ?_) | (refine wpList_copy2 _ rfl _ _ 22 22 rfl (.slice (some ⟨w.heap.size, i, none⟩) (n + 2 - i) (C - i)) (.slice (some ⟨gv, 0, none⟩) 2 2) rfl rfl HC1.out ?_))
  have hwr : IntKind.i64.wrap ((i : Int) + 2) = (i : Int) + 2 := by rw [IntKind.wrap_i64]; omega
  have hp0 : (0 : Int) ≤ (i : Int) + 2 := by omega
  have hp1 : (i : Int) + 2 ≤ ((n + 2 : Nat) : Int) := by omega
  have hp2 : ((i : Int) + 2).toNat = i + 2 := by omega
  have hs1 := fun W => run_low W w.heap.size 0 (n + 2) C (i + 2) ((i : Int) + 2) (by omega) (by omega) (by omega) (by omega)
  have hs2 := fun W => run_low W g 0 n cap i (i : Int) rfl (by omega) (by omega) (by omega)
  simp only [Nat.zero_add] at hs1 hs2
  go_still_tail 8, (by kernel_rfl)
  change wpList _ _ _ _ _ W2.drew
  refine wpList_copy2 _ rfl _ _ 22 22 rfl (.slice (some ⟨w.heap.size, i + 2, none⟩) (n - i) (C - (i + 2))) (.slice (some ⟨g, i, none⟩) (n - i) (cap - i)) rfl rfl HC2.out ?_
  go_wp2_with fail
  go_ret
  exact HFIN.out

theorem overlaps_no (W : World) (gv g n c lb cb i : Nat) (cur : List Value) (k m : Value) (hv : Blk W gv #[k, m] 3) (hr : RowAt W 3 g cur) (hl : 0 < cur.length) (hne : gv ≠ g) :
    (callFunc 54 #[.slice (some ⟨gv, 0, none⟩) 2 2, .slice (some ⟨g, i, none⟩) lb cb]).run Try.prog W = .ok (.value (.bool false)) W := by
  obtain ⟨i0, hi, hz0, hz1, hz2⟩ := info_parts infoInt
  have hz : ∀ w, (Go.sizeOf 3).run Try.prog w = .ok 1 w := by
    intro w
    simp [sizeOf, typeInfo, hi, hz1]
  have hsa : W.shape? gv = some (3, 2) := by unfold Blk at hv; simp [World.shape?, hv]
  have hsb : W.shape? g = some (3, cur.length) := by unfold RowAt at hr; simp [World.shape?, hr]
  rw [run_callFunc_extern Try.func54 (by kernel_rfl) (by kernel_rfl) (by kernel_rfl) (e := Extern.SlicesOverlaps.overlaps #[22, 22] #[4]) (by kernel_rfl),
    Lib.run_overlaps_apart W 22 4 3 Try.underlying22 1 hz ⟨gv, 0, none⟩ ⟨g, i, none⟩ 2 2 lb cb hne 3 3 2 cur.length hsa hsb (by omega) (hv.frozen 0) (hv.frozen 2)]
  rfl

set_option maxHeartbeats 1600000 in
theorem sl_insert_room {w : World} {g n cap i : Nat} {xs : List Int} (h : Own w 3 1 (.slice (some ⟨g, 0, none⟩) n cap) n (ints xs)) (gv : Nat) (k m : Int) (hv : Blk w gv #[.int .i64 k, .int .i64 m] 3) (hne : gv ≠ g) (hn : n ≤ 1099511627776) (hin : i < n) (hgr : n + 2 ≤ cap) :
    Calls Try.prog 53 #[.slice (some ⟨g, 0, none⟩) n cap, .int .i64 i, .slice (some ⟨gv, 0, none⟩) 2 2] w (InsP w (.slice (some ⟨g, 0, none⟩) n cap) n i xs k m) := by
  obtain ⟨i0, hi, hz0, hz1, hz2⟩ := info_parts infoInt
  obtain ⟨_, hnc, hcm, hxl, rest, hrow, hrl⟩ := own_row h
  have hxl' : xs.length = n := by simpa [ints] using hxl
  have hcm' : cap ≤ 9223372036854775807 := by simp only [maxLen] at hcm; omega
  obtain ⟨L1, hL1⟩ : ∃ L1 : List Value, L1 = (ints xs ++ rest).take (i + 2) ++ ints (xs.drop i) ++ (ints xs ++ rest).drop (i + 2 + (n - i)) := ⟨_, rfl⟩
  have hl1 : L1.length = cap := by
    rw [hL1]
    simp only [List.length_append, List.length_take, List.length_drop, ints_length] at hrl ⊢
    omega
  obtain ⟨W1, hW1⟩ : ∃ W1, W1 = w.drew.setRow g L1.toArray := ⟨_, rfl⟩
  have hc1 : ∀ ty, (Builtin.copy_ #[22, 22] ty #[.slice (some ⟨g, i + 2, none⟩) (n - i) (cap - (i + 2)), .slice (some ⟨g, i, none⟩) (n + 2 - i) (cap - i)]).run Try.prog w.drew = .ok (.int .i64 ((n - i : Nat) : Int)) W1 := by
    intro ty
    rw [hW1, hL1]
    refine run_copy_row w.drew _ ty _ i0 Try.underlying22 hi hz1 g (i + 2) (n - i) (cap - (i + 2)) _ hrow.drew _ (n + 2 - i) (n - i) (ints (xs.drop i)) (by simp [ints]; omega) ⟨_, _, rfl, fun _ => ⟨_, rfl, row_news hrow.drew i _ ?_⟩⟩ (ints_one _) (by show min (n + 2 - i) (n - i) = n - i; omega) (by omega)
    intro t ht
    simp only [ints_length, List.length_drop] at ht
    rw [List.getElem?_append_left (by rw [ints_length]; omega)]
    simp [ints]
  have hr1 : RowAt W1 3 g L1 := by rw [hW1]; exact hrow.drew.set _
  have hk1 : Keeps (fun b => b = g) w W1 := by rw [hW1]; exact (Keeps.refl _ w).drew.trans' (keeps_setRow _ _ _)
  have hv1 : Blk W1 gv #[.int .i64 k, .int .i64 m] 3 := hv.keeps hk1 hne
  obtain ⟨L2, hL2⟩ : ∃ L2 : List Value, L2 = L1.take i ++ [.int .i64 k, .int .i64 m] ++ L1.drop (i + 2) := ⟨_, rfl⟩
  have hl2 : L2.length = cap := by rw [hL2]; simp; omega
  obtain ⟨W2, hW2⟩ : ∃ W2, W2 = W1.setRow g L2.toArray := ⟨_, rfl⟩
  have hc2 : ∀ ty, (Builtin.copy_ #[22, 22] ty #[.slice (some ⟨g, i, none⟩) (n + 2 - i) (cap - i), .slice (some ⟨gv, 0, none⟩) 2 2]).run Try.prog W1 = .ok (.int .i64 2) W2 := by
    intro ty
    rw [hW2, hL2]
    exact run_copy_row W1 _ ty _ i0 Try.underlying22 hi hz1 g i (n + 2 - i) (cap - i) L1 hr1 _ 2 2 [.int .i64 k, .int .i64 m] rfl ⟨_, _, rfl, fun _ => ⟨_, rfl, hv1.news⟩⟩ (by simp [Value.oneCell']) (Nat.min_eq_left (by omega)) (by omega)
  have fin : InsP w (.slice (some ⟨g, 0, none⟩) n cap) n i xs k m (.returned (.slice (some ⟨g, 0, none⟩) (n + 2) cap)) W2 := by
    have hr2 : RowAt W2 3 g L2 := by rw [hW2]; exact hr1.set _
    have ho := hr2.own (n := n + 2) (cap := cap) hgr hcm hl2
    have he : L2.take (n + 2) = ints (xs.take i ++ [k, m] ++ xs.drop i) := by
      have e0 : (ints xs ++ rest).take (i + 2) = (ints xs ++ rest).take i ++ ((ints xs ++ rest).drop i).take 2 := List.take_add ..
      have e1 : L1.take i = ints (xs.take i) := by
        rw [hL1, e0, List.append_assoc, List.append_assoc, List.take_left' (by simp only [List.length_take]; omega), List.take_append_of_le_length (by rw [ints_length]; omega)]
        simp [ints, List.map_take]
      have e2 : L1.drop (i + 2) = ints (xs.drop i) ++ (ints xs ++ rest).drop (i + 2 + (n - i)) := by
        rw [hL1, List.append_assoc, List.drop_left' (by simp only [List.length_take]; omega)]
      have e3 : ints (xs.take i) ++ [.int .i64 k, .int .i64 m] ++ (ints (xs.drop i) ++ (ints xs ++ rest).drop (i + 2 + (n - i))) = ints (xs.take i ++ [k, m] ++ xs.drop i) ++ (ints xs ++ rest).drop (i + 2 + (n - i)) := by
        simp [ints]
      rw [hL2, e1, e2, e3, List.take_left' (by simp [ints]; omega)]
    rw [he] at ho
    refine ⟨_, rfl, ho, .inl rfl, ?_⟩
    have hk2 : Keeps (fun b => b = g) W1 W2 := by rw [hW2]; exact keeps_setRow _ _ _
    exact (hk1.trans' hk2).mono (by rintro b rfl; rfl)
  have hov := fun lb cb => overlaps_no w gv g n cap lb cb (i + 2) _ (.int .i64 k) (.int .i64 m) hv hrow (by omega) hne
  have HOV := Lib.hid hov
  have HC1 := Lib.hid hc1
  have HC2 := Lib.hid hc2
  have HFIN := Lib.hid fin
  have e1 : ((i : Int) == n) = false := by simp; omega
  have e2 : ¬ (n : Int) + 2 > cap := by omega
  have hic : i ≤ cap := by omega
  clear hc1 hc2 fin hr1 hl1 hk1 hrow hrl h hxl hxl' hL1 hL2 hl2 hv1 hv hW1 hW2 hcm hov
  go_enter Try.func53, Try.ntmps53
  have hov := HOV.out
  go_wp2_with fail
  have hwr : IntKind.i64.wrap ((i : Int) + 2) = (i : Int) + 2 := by rw [IntKind.wrap_i64]; omega
  have hp0 : (0 : Int) ≤ (i : Int) + 2 := by omega
  have hs1 := fun W => run_low W g 0 (n + 2) cap (i + 2) ((i : Int) + 2) (by omega) (by omega) (by omega) (by omega)
  have hs2 := fun W => run_low W g 0 (n + 2) cap i (i : Int) rfl (by omega) (by omega) (by omega)
  simp only [Nat.zero_add] at hs1 hs2
  go_still_tail 8, (by kernel_rfl)
  change wpList _ _ _ _ _ w.drew
  refine wpList_copy2 _ rfl _ _ 22 22 rfl (.slice (some ⟨g, i + 2, none⟩) (n - i) (cap - (i + 2))) (.slice (some ⟨g, i, none⟩) (n + 2 - i) (cap - i)) rfl rfl HC1.out ?_
  go_wp2_with (refine wpList_copy2 _ rfl _ _ 22 22 rfl (.slice (some ⟨g, i, none⟩) (n + 2 - i) (cap - i)) (.slice (some ⟨gv, 0, none⟩) 2 2) rfl rfl HC2.out ?_)
  go_ret
  exact HFIN.out

/-- Insert of two numbers, whatever the room. -/
theorem sl_insert {w : World} {v : Value} {n i : Nat} {xs : List Int} (h : Own w 3 1 v n (ints xs)) (gv : Nat) (k m : Int) (hv : Blk w gv #[.int .i64 k, .int .i64 m] 3) (hne : v.ownBlock ≠ some gv) (hn : n ≤ 1099511627776) (hin : i ≤ n) :
    Calls Try.prog 53 #[v, .int .i64 i, .slice (some ⟨gv, 0, none⟩) 2 2] w (InsP w v n i xs k m) := by
  by_cases h0 : i = n
  · subst h0
    exact sl_insert_end h gv k m hv hn
  · obtain ⟨g, c, rfl, hc1, hc2⟩ := own_open h (by omega)
    by_cases hr : n + 2 ≤ c
    · exact sl_insert_room h gv k m hv (fun e => hne (by simp [Value.ownBlock, e])) hn (by omega) hr
    · exact sl_insert_grow h gv k m hv hn (by omega) (by omega)
end Go.Proofs.Ytaoagaokocnehaa
