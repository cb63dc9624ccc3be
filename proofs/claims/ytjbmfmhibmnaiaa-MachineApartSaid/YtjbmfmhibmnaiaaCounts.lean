/-
  Layer 14: MachineCounts returns true, whatever the picks.
-/
import Derived.Test.YtjbmfmhibmnaiaaOnce
namespace Go.Proofs.Ytjbmfmhibmnaiaa
set_option linter.unusedVariables false
set_option linter.unusedSimpArgs false
open Go.RowKit

/-- How many of the first k are processes. -/
def inr (f : Nat → Int) (n : Int) : Nat → Int
  | 0 => 0
  | k + 1 => inr f n k + if 0 ≤ f k ∧ f k < n then 1 else 0
theorem inr_range (f : Nat → Int) (n : Int) (k : Nat) : 0 ≤ inr f n k ∧ inr f n k ≤ k := by
  induction k with
  | zero => simp [inr]
  | succ k ih =>
    simp only [inr]
    split <;> omega

theorem sum_set (l : List Int) (i : Nat) (v : Int) (h : i < l.length) : (l.set i v).sum = l.sum - l.getD i 0 + v := by
  induction l generalizing i with
  | nil => simp at h
  | cons a l ih =>
    cases i with
    | zero => simp; omega
    | succ i =>
      have := ih i (by simpa using h)
      simp only [List.set_cons_succ, List.sum_cons, this, List.getD_cons_succ]
      omega
theorem take_sum_succ (l : List Int) (i : Nat) (h : i < l.length) : (l.take (i + 1)).sum = (l.take i).sum + l.getD i 0 := by
  rw [List.take_add_one, List.getElem?_eq_getElem h, List.sum_append]
  simp [List.getD_eq_getElem?_getD, List.getElem?_eq_getElem h]
theorem take_sum_range (l : List Int) (m : Int) (hm : 0 ≤ m) (h : ∀ x ∈ l, 0 ≤ x ∧ x ≤ m) (i : Nat) (hi : i ≤ l.length) : 0 ≤ (l.take i).sum ∧ (l.take i).sum ≤ i * m := by
  induction i with
  | zero => simp
  | succ i ih =>
    have h1 := ih (by omega)
    have hg : l.getD i 0 ∈ l := by simp [List.getD_eq_getElem?_getD, List.getElem?_eq_getElem (show i < l.length by omega)]
    have h2 := h _ hg
    rw [take_sum_succ l i (by omega)]
    have : ((i + 1 : Nat) : Int) * m = i * m + m := by rw [Int.natCast_add, Int.add_mul]; simp
    omega

/-- What the first loop's head knows. -/
def CountRel (w : World) (bm : Nat) (n : Nat) (f : Nat → Int) (k : Nat) (wr : World) : Prop :=
  ∃ vc vs S, Mach wr bm vc vs ⟨[(k : Int)], S⟩ ∧ Below w.heap.size w wr ∧ (∀ k, machF bm vc vs k → w.heap.size ≤ k) ∧ S.length = n ∧ S.sum = inr f n k ∧ ∀ x ∈ S, 0 ≤ x ∧ x ≤ k
theorem CountRel.cell {w wr : World} {bm n k : Nat} {f : Nat → Int} (h : CountRel w bm n f k wr) {b o : Nat} (hb : b < w.heap.size) : wr.cell? ⟨b, o, none⟩ = w.cell? ⟨b, o, none⟩ := by
  obtain ⟨vc, vs, s, _, hb', _⟩ := h
  exact hb'.cell (p := ⟨b, o, none⟩) hb
theorem wrap_small (x : Int) (h : -1000000 ≤ x ∧ x ≤ 1000000) : wrap64 x = x := by unfold wrap64; omega
theorem count_step {w wr : World} {bm n k : Nat} {f : Nat → Int} (hk : k < 200) (h : CountRel w bm n f k wr) :
    Calls Try.prog 14 #[.pointer (some ⟨bm, 0, none⟩), .int .i64 (f k), .int .i64 0, .int .i64 1] wr fun e w' => e = .returned (.int .i64 k) ∧ CountRel w bm n f (k + 1) w' := by
  obtain ⟨vc, vs, S, hM, hb, hF, hl, hs, hx⟩ := h
  refine (mach_add hM (f k) 0 1).mono ?_
  rintro e w' ⟨rfl, hM', hK⟩
  have hh : ∀ S', (⟨[(k : Int)], S'⟩ : MS).has 0 := by intro S'; simp [MS.has]
  have hg : (⟨[(k : Int)], S⟩ : MS).get 0 = k := by unfold MS.get; rw [if_pos (hh _)]; rfl
  rw [hg] at hM' ⊢
  have hw : wrap64 ((k : Int) + 1) = ((k + 1 : Nat) : Int) := by rw [wrap_small _ (by omega)]; omega
  rw [hw] at hM'
  by_cases hp : 0 ≤ f k ∧ f k < n
  · have hst : (⟨[(k : Int)], S⟩ : MS).step (f k) = ⟨[(k : Int)], S.set (f k).toNat (S.getD (f k).toNat 0 + 1)⟩ := by
      unfold MS.step
      rw [if_pos (by simpa [hl] using hp)]
      have hmem : S.getD (f k).toNat 0 ∈ S := by simp [List.getD_eq_getElem?_getD, List.getElem?_eq_getElem (show (f k).toNat < S.length by omega)]
      have := hx _ hmem
      simp only
      rw [wrap_small _ (by omega)]
    rw [hst] at hM'
    unfold MS.put at hM'
    rw [if_pos (hh _)] at hM'
    refine ⟨rfl, vc, vs, _, hM', hb.trans (hK.below hF hb.size), hF, by simpa using hl, ?_, ?_⟩
    · rw [sum_set _ _ _ (by omega), hs]
      simp only [inr]
      rw [if_pos hp]
      omega
    · intro x hx'
      rcases List.mem_or_eq_of_mem_set hx' with h1 | rfl
      · have := hx x h1; omega
      · have hmem : S.getD (f k).toNat 0 ∈ S := by simp [List.getD_eq_getElem?_getD, List.getElem?_eq_getElem (show (f k).toNat < S.length by omega)]
        have := hx _ hmem
        omega
  · have hst : (⟨[(k : Int)], S⟩ : MS).step (f k) = ⟨[(k : Int)], S⟩ := by
      unfold MS.step
      rw [if_neg (by simpa [hl] using hp)]
    rw [hst] at hM'
    unfold MS.put at hM'
    rw [if_pos (hh _)] at hM'
    refine ⟨rfl, vc, vs, S, hM', hb.trans (hK.below hF hb.size), hF, hl, ?_, ?_⟩
    · rw [hs]
      simp only [inr]
      rw [if_neg hp]
      omega
    · intro x hx'
      have := hx x hx'; omega
/-- Steps, behind the first loop. -/
theorem count_steps {w wr : World} {bm n k : Nat} {f : Nat → Int} (h : CountRel w bm n f k wr) :
    ∃ S : List Int, S.length = n ∧ S.sum = inr f n k ∧ (∀ x ∈ S, 0 ≤ x ∧ x ≤ k) ∧ ∀ p : Nat, p < n → Calls Try.prog 15 #[.pointer (some ⟨bm, 0, none⟩), .int .i64 p] wr fun e w' => e = .returned (.int .i64 (S.getD p 0)) ∧ w' = wr := by
  obtain ⟨vc, vs, S, hM, hb, hF, hl, hs, hx⟩ := h
  refine ⟨S, hl, hs, hx, fun p hp => ?_⟩
  refine (mach_steps hM p).mono ?_
  rintro e w' ⟨rfl, rfl⟩
  refine ⟨?_, rfl⟩
  unfold MS.stepsOf
  rw [if_pos (by constructor; omega; show (p : Int) < (S.length : Int); omega), Int.toNat_natCast]

theorem IsRow.view {k : IntKind} {w : World} {a : Option Addr} {len cap : Nat} {zs : List Int} (h : IsRow k w a len cap zs) :
    len ≤ 9223372036854775807 ∧ ∃ f : Nat → Int, 0 < len → ∃ b o, a = some ⟨b, o, none⟩ ∧ b < w.heap.size ∧ ∀ i, i < len → w.cell? ⟨b, o + i, none⟩ = some (.int k (f i)) := by
  obtain ⟨h1, h2, h3⟩ := h.le
  exact ⟨by omega, fun i => zs.getD i 0, fun hl => h.one hl⟩

set_option maxHeartbeats 3200000 in
theorem counts_walk (a0 : Int) (a1 : Option Addr) (len1 cap1 : Nat) (z1 : List Int) (w : World) (w1 : IsRow .i64 w a1 len1 cap1 z1) :
    Calls Try.prog 4 #[.int .i64 a0, .slice a1 len1 cap1] w (Tells w true) := by
  obtain ⟨hl, f, hv⟩ := w1.view
  clear w1
  by_cases hcond : 1 ≤ a0 ∧ a0 ≤ 100 ∧ len1 ≤ 200
  · obtain ⟨c1, c2, c3⟩ := hcond
    obtain ⟨n, rfl⟩ := Int.eq_ofNat_of_zero_le (show 0 ≤ a0 by omega)
    go_enter Try.func4, Try.ntmps4
    go_wp2_with fail
    refine (awake14 w).mono ?_
    rintro e wa ⟨rfl, hBa⟩
    go_wp2_with fail
    refine (mach_new wa n (by omega)).mono ?_
    rintro e w2 ⟨bm, vs, rfl, hM1, hK1, hF1⟩
    have H1 := Lib.hid hF1
    clear hF1
    go_wp2_with fail
    refine (mach_cells hM1 1 (by simp)).mono ?_
    rintro e w3 ⟨rfl, vc, hM2, hK2, hF2⟩
    have hR : CountRel w bm n f 0 w3 := by
      have s0 := hBa.size
      have s1 := hK1.size
      have hb1 : ∀ k, machF bm (.slice none 0 0) vs k → w.heap.size ≤ k := fun k hk => Nat.le_trans s0 (H1.out k hk)
      rw [Int.toNat_natCast] at hM2
      refine ⟨vc, vs, _, hM2, (hBa.trans (hK1.below (by simp) s0)).trans (hK2.below hb1 (by omega)), grow_ge hb1 hF2 (by omega), by simp, by simp [inr], ?_⟩
      intro x hx
      rw [List.eq_of_mem_replicate hx]
      simp
    have HR := Lib.hid hR
    clear hM1 hK1 H1 hM2 hK2 hF2 hBa hR
    have HV := Lib.hid hv
    clear hv
    go_wp2_with fail
    go_loopw [8] (fun i wr => ∃ k : Nat, k ≤ len1 ∧ i = .int .i64 k ∧ CountRel w bm n f k wr) (fun i _ => len1 - (intOf i).toNat)
    case atStart => exact ⟨0, Nat.zero_le _, rfl, HR.out⟩
    case round =>
      obtain ⟨k, hk, rfl, hR'⟩ := hrel
      clear HR
      have HR := Lib.hid hR'
      by_cases hlt : k < len1
      · obtain ⟨b, o, rfl, hb, hcells⟩ := HV.out (by omega)
        have hc := hcells k hlt
        rw [← hR'.cell hb] at hc
        have HS := Lib.hid (count_step (by omega) hR')
        clear hR' hcells
        have hkk : ((k : Int) != k) = false := by simp
        go_wp2_with fail
        refine HS.out.mono ?_
        rintro e w4 ⟨rfl, hR4⟩
        have H4 := Lib.hid hR4
        clear hR4
        go_wp2_with fail
        go_roundw
        case rel => exact ⟨k + 1, by omega, by go_num, H4.out⟩
        case measure => simp [intOf]; omega
      · obtain rfl : k = len1 := by omega
        obtain ⟨S, hSl, hSs, hSx, hsteps⟩ := count_steps hR'
        have HS := Lib.hid hsteps
        have HSS := Lib.hid hSs
        have HSL := Lib.hid hSl
        have HSX := Lib.hid hSx
        have HB := Lib.hid hR'
        clear hR' hsteps hSs hSl hSx hk
        go_wp2_with fail
        go_loop [9, 10] (fun m i => ∃ p : Nat, p ≤ n ∧ i = .int .i64 p ∧ m = .int .i64 (S.take p).sum) (fun _ i => n - (intOf i).toNat)
        case atStart => exact ⟨0, Nat.zero_le _, rfl, by simp⟩
        case round =>
          obtain ⟨p, hp, rfl, rfl⟩ := hrel
          by_cases hpn : p < n
          · have HC := Lib.hid (HS.out p hpn)
            have e1 := take_sum_succ S p (by rw [HSL.out]; exact hpn)
            have r1 := take_sum_range S k (by omega) HSX.out p (by rw [HSL.out]; exact hp)
            have r2 : (p : Int) * (k : Int) ≤ 100 * 200 := Int.mul_le_mul (by omega) (by omega) (by omega) (by omega)
            have r3 := take_sum_range S k (by omega) HSX.out (p + 1) (by rw [HSL.out]; omega)
            have r4 : ((p + 1 : Nat) : Int) * (k : Int) ≤ 101 * 200 := Int.mul_le_mul (by omega) (by omega) (by omega) (by omega)
            obtain ⟨q1, q2⟩ := r1
            obtain ⟨q3, q4⟩ := r3
            have q5 : (S.take p).sum ≤ 20000 := by omega
            have q6 : (S.take (p + 1)).sum ≤ 20200 := by omega
            have E1 := Lib.hid e1
            generalize S.getD p 0 = sp at *
            generalize (S.take p).sum = tp at *
            have q7 : 0 ≤ tp + sp := by rw [← e1]; exact q3
            have q8 : tp + sp ≤ 20200 := by rw [← e1]; exact q6
            clear e1 q3 q4 q6 r2 r4 q2
            go_wp2_with fail
            refine HC.out.mono ?_
            rintro e w5 ⟨rfl, rfl⟩
            go_wp2_with fail
            go_round
            case rel => exact ⟨p + 1, by omega, by go_num, by rw [E1.out]⟩
            case measure => simp [intOf]; omega
          · obtain rfl : p = n := by omega
            have e2 : (S.take p).sum = inr f p k := by rw [List.take_of_length_le (by rw [HSL.out]; exact Nat.le_refl _)]; exact HSS.out
            have E2 := Lib.hid e2
            clear e2
            go_wp2_with fail
            go_loop [11, 12] (fun m i => ∃ q : Nat, q ≤ k ∧ i = .int .i64 q ∧ m = .int .i64 (q - inr f p q)) (fun _ i => k - (intOf i).toNat)
            case atStart => exact ⟨0, Nat.zero_le _, rfl, by simp [inr]⟩
            case round =>
              obtain ⟨q, hq, rfl, rfl⟩ := hrel
              have ri := inr_range f p q
              obtain ⟨i1, i2⟩ := ri
              by_cases hqk : q < k
              · obtain ⟨b, o, rfl, hb, hcells⟩ := HV.out (by omega)
                have hc := hcells q hqk
                rw [← HB.out.cell hb] at hc
                have e3 : inr f p (q + 1) = inr f p q + if 0 ≤ f q ∧ f q < p then 1 else 0 := rfl
                have E3 := Lib.hid e3
                clear e3 hcells
                generalize f q = z at *
                generalize inr f p q = iq at *
                by_cases hz : z < 0
                · go_wp2_with fail
                  go_round
                  case rel => exact ⟨q + 1, by omega, by go_num, by rw [E3.out, if_neg (by omega)]; go_num⟩
                  case measure => simp [intOf]; omega
                · by_cases hz2 : z < p
                  · go_wp2_with fail
                    go_round
                    case rel => exact ⟨q + 1, by omega, by go_num, by rw [E3.out, if_pos (by omega)]; go_num⟩
                    case measure => simp [intOf]; omega
                  · go_wp2_with fail
                    go_round
                    case rel => exact ⟨q + 1, by omega, by go_num, by rw [E3.out, if_neg (by omega)]; go_num⟩
                    case measure => simp [intOf]; omega
              · obtain rfl : q = k := by omega
                go_wp2_with fail
                go_ret
                have e4 : ((S.take p).sum == (q : Int) - (q - inr f p q)) = true := by rw [E2.out]; simp; omega
                obtain ⟨vc, vs, S', _, hB', _⟩ := HB.out
                exact ⟨by rw [e4]; rfl, hB'⟩
  · have hc' : a0 < 1 ∨ (¬ a0 < 1 ∧ 100 < a0) ∨ (¬ a0 < 1 ∧ ¬ 100 < a0 ∧ 200 < len1) := by omega
    clear hcond hv
    rcases hc' with c1 | ⟨c1, c2⟩ | ⟨c1, c2, c3⟩
    all_goals
      go_enter Try.func4, Try.ntmps4
      go_wp2_with fail
      refine (awake14 w).mono ?_
      rintro e wa ⟨rfl, hBa⟩
      go_wp2_with fail
      go_ret
      exact ⟨rfl, hBa⟩
end Go.Proofs.Ytjbmfmhibmnaiaa
