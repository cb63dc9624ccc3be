/-
  Layer 14: MachineApart returns true.
-/
import Derived.Test.YtjbmfmhibmnaiaaCounts
import Derived.Test.YtjbmfmhibmnaiaaOpen
import Derived.StillTailTactics
namespace Go.Proofs.Ytjbmfmhibmnaiaa
set_option linter.unusedVariables false
set_option linter.unusedSimpArgs false
open Go.RowKit

/-- Five cells; one of them has 9. -/
def Nine (c : Int) (M : MS) : Prop := M.cells.length = 5 ∧ M.has c ∧ M.get c = 9
theorem MS.step_len' (M : MS) (p : Int) : (M.step p).cells.length = M.cells.length := by rw [MS.step_cells]
theorem nine_step {c : Int} {M : MS} (h : Nine c M) (p : Int) : Nine c (M.step p) := ⟨by rw [MS.step_cells]; exact h.1, (MS.step_has ..).2 h.2.1, by rw [MS.step_get]; exact h.2.2⟩
theorem nine_put {c d n : Int} {M : MS} (h : Nine c M) (hne : d ≠ c) : Nine c (M.put d n) := by
  obtain ⟨h1, h2, h3⟩ := h
  unfold MS.put
  split
  · rename_i hd
    have hh : (⟨M.cells.set d.toNat n, M.steps⟩ : MS).has c := by
      have := h2; unfold MS.has at *; simpa using this
    refine ⟨by simpa using h1, hh, ?_⟩
    have hc := h2
    unfold MS.get at h3 ⊢
    rw [if_pos hh]
    rw [if_pos h2] at h3
    unfold MS.has at hd hc
    have : d.toNat ≠ c.toNat := by omega
    simp only [List.getD_eq_getElem?_getD] at h3 ⊢
    rw [List.getElem?_set_ne this]
    exact h3
  · exact ⟨h1, h2, h3⟩
theorem nine_swap {c d o n p : Int} {M : MS} (h : Nine c M) (hne : d ≠ c) : Nine c (M.swap p d o n) := by
  unfold MS.swap
  split
  · exact nine_put (nine_step h p) hne
  · exact nine_step h p

def NineRel (w : World) (bm : Nat) (c : Int) (wr : World) : Prop :=
  ∃ vc vs M, Mach wr bm vc vs M ∧ Below w.heap.size w wr ∧ (∀ k, machF bm vc vs k → w.heap.size ≤ k) ∧ Nine c M
theorem NineRel.below {w wr : World} {bm : Nat} {c : Int} (h : NineRel w bm c wr) : Below w.heap.size w wr := by
  obtain ⟨_, _, _, _, h, _⟩ := h
  exact h
theorem NineRel.cell {w wr : World} {bm : Nat} {c : Int} (h : NineRel w bm c wr) {b o : Nat} (hb : b < w.heap.size) : wr.cell? ⟨b, o, none⟩ = w.cell? ⟨b, o, none⟩ := h.below.cell (p := ⟨b, o, none⟩) hb
theorem NineRel.drew {w wr : World} {bm : Nat} {c : Int} (h : NineRel w bm c wr) : NineRel w bm c wr.drew := by
  obtain ⟨vc, vs, M, hM, hb, hF, hn⟩ := h
  exact ⟨vc, vs, M, hM.drew, hb.drew, hF, hn⟩
theorem ap_read {w wr : World} {bm : Nat} {c : Int} (h : NineRel w bm c wr) (p d : Int) :
    Calls Try.prog 13 #[.pointer (some ⟨bm, 0, none⟩), .int .i64 p, .int .i64 d] wr fun e w' => ∃ n, e = .returned (.int .i64 n) ∧ NineRel w bm c w' ∧ (d = c → n = 9) := by
  obtain ⟨vc, vs, M, hM, hb, hF, hn⟩ := h
  refine (mach_read hM p d).mono ?_
  rintro e w' ⟨rfl, hM', hK⟩
  exact ⟨_, rfl, ⟨vc, vs, _, hM', hb.trans (hK.below hF hb.size), hF, nine_step hn p⟩, by rintro rfl; exact hn.2.2⟩
theorem ap_read9 {w wr : World} {bm : Nat} {c : Int} (h : NineRel w bm c wr) (p : Int) :
    Calls Try.prog 13 #[.pointer (some ⟨bm, 0, none⟩), .int .i64 p, .int .i64 c] wr fun e w' => e = .returned (.int .i64 9) ∧ NineRel w bm c w' := by
  refine (ap_read h p c).mono ?_
  rintro e w' ⟨n, rfl, hR, hn⟩
  rw [hn rfl]
  exact ⟨rfl, hR⟩
theorem ap_write {w wr : World} {bm : Nat} {c : Int} (h : NineRel w bm c wr) (p d n : Int) (hne : d ≠ c) :
    Calls Try.prog 16 #[.pointer (some ⟨bm, 0, none⟩), .int .i64 p, .int .i64 d, .int .i64 n] wr fun e w' => e = .returned (.tuple #[]) ∧ NineRel w bm c w' := by
  obtain ⟨vc, vs, M, hM, hb, hF, hn⟩ := h
  refine (mach_write hM p d n).mono ?_
  rintro e w' ⟨rfl, hM', hK⟩
  exact ⟨rfl, vc, vs, _, hM', hb.trans (hK.below hF hb.size), hF, nine_put (nine_step hn p) hne⟩
theorem ap_swap {w wr : World} {bm : Nat} {c : Int} (h : NineRel w bm c wr) (p d o n : Int) (hne : d ≠ c) :
    Calls Try.prog 12 #[.pointer (some ⟨bm, 0, none⟩), .int .i64 p, .int .i64 d, .int .i64 o, .int .i64 n] wr fun e w' => ∃ b, e = .returned (.bool b) ∧ NineRel w bm c w' := by
  obtain ⟨vc, vs, M, hM, hb, hF, hn⟩ := h
  refine (mach_swap hM p d o n).mono ?_
  rintro e w' ⟨rfl, hM', hK⟩
  exact ⟨_, rfl, vc, vs, _, hM', hb.trans (hK.below hF hb.size), hF, nine_swap hn hne⟩
theorem ap_add {w wr : World} {bm : Nat} {c : Int} (h : NineRel w bm c wr) (p d n : Int) (hne : d ≠ c) :
    Calls Try.prog 14 #[.pointer (some ⟨bm, 0, none⟩), .int .i64 p, .int .i64 d, .int .i64 n] wr fun e w' => ∃ m, e = .returned (.int .i64 m) ∧ NineRel w bm c w' := by
  obtain ⟨vc, vs, M, hM, hb, hF, hn⟩ := h
  refine (mach_add hM p d n).mono ?_
  rintro e w' ⟨rfl, hM', hK⟩
  exact ⟨_, rfl, vc, vs, _, hM', hb.trans (hK.below hF hb.size), hF, nine_put (nine_step hn p) hne⟩
theorem ap_len {w wr : World} {bm : Nat} {c : Int} (h : NineRel w bm c wr) :
    Calls Try.prog 17 #[.pointer (some ⟨bm, 0, none⟩)] wr fun e w' => e = .returned (.int .i64 5) ∧ w' = wr := by
  obtain ⟨vc, vs, M, hM, hb, hF, hn⟩ := h
  refine (mach_len hM).mono ?_
  rintro e w' ⟨rfl, rfl⟩
  rw [hn.1]
  exact ⟨rfl, rfl⟩

set_option maxRecDepth 100000 in
set_option maxHeartbeats 3200000 in
theorem apart_walk (a0 : Option Addr) (len0 cap0 : Nat) (c : Int) (w : World) (hl : len0 ≤ 9223372036854775807) (f : Nat → Nat → Int) (hv : IsOps w a0 len0 f 5) :
    Calls Try.prog 5 #[.slice a0 len0 cap0, .int .i64 c] w (Tells w true) := by
  have HV := Lib.hid hv
  clear hv
  by_cases hcond : len0 ≤ 200 ∧ 0 ≤ c ∧ c < 5
  · obtain ⟨c1, c2, c3⟩ := hcond
    go_enter Try.func5, Try.ntmps5
    go_wp2_with fail
    refine (awake14 w).mono ?_
    rintro e wa ⟨rfl, hBa⟩
    go_wp2_with fail
    refine (mach_new wa 2 (by omega)).mono ?_
    rintro e w2 ⟨bm, vs, rfl, hM1, hK1, hF1⟩
    have H1 := Lib.hid hF1
    clear hF1
    go_wp2_with fail
    refine (mach_cells hM1 5 (by simp)).mono ?_
    rintro e w3 ⟨rfl, vc, hM2, hK2, hF2⟩
    have HW := Lib.hid (mach_write hM2 0 c 9)
    have H2 := Lib.hid hF2
    clear hF2
    go_wp2_with fail
    refine HW.out.mono ?_
    rintro e w4 ⟨rfl, hM3, hK3⟩
    have hR : NineRel w bm c w4 := by
      have s0 := hBa.size
      have s1 := hK1.size
      have s2 := hK2.size
      have hb1 : ∀ k, machF bm (.slice none 0 0) vs k → w.heap.size ≤ k := fun k hk => Nat.le_trans s0 (H1.out k hk)
      have hb2 := grow_ge hb1 H2.out (by omega : w.heap.size ≤ w2.heap.size)
      refine ⟨vc, vs, _, hM3, ((hBa.trans (hK1.below (by simp) s0)).trans (hK2.below hb1 (by omega))).trans (hK3.below hb2 (by omega)), hb2, ?_⟩
      have hh : ∀ S, (⟨[0, 0, 0, 0, 0], S⟩ : MS).has c := fun S => ⟨c2, by simpa using c3⟩
      have he : (⟨[] ++ List.replicate (if (5 : Int) ≤ 1048576 then (5 : Int).toNat else 0) 0, List.replicate (2 : Int).toNat 0⟩ : MS) = ⟨[0, 0, 0, 0, 0], [0, 0]⟩ := by decide
      rw [he]
      have hn : ((⟨[0, 0, 0, 0, 0], [0, 0]⟩ : MS).step 0).has c := (MS.step_has ..).2 (hh _)
      have hlen : ((⟨[0, 0, 0, 0, 0], [0, 0]⟩ : MS).step 0).cells = [0, 0, 0, 0, 0] := MS.step_cells ..
      have h2 : (((⟨[0, 0, 0, 0, 0], [0, 0]⟩ : MS).step 0).put c 9).has c := by
        unfold MS.has
        rw [MS.put_len]
        exact hn
      refine ⟨by rw [MS.put_len, hlen]; rfl, h2, ?_⟩
      unfold MS.get
      rw [if_pos h2]
      unfold MS.put
      rw [if_pos hn, hlen]
      have : c.toNat < 5 := by omega
      simp [List.getD_eq_getElem?_getD, this]
    have HR := Lib.hid hR
    clear hM1 hK1 H1 hM2 hK2 H2 hBa hR HW hM3 hK3
    go_wp2_with fail
    go_loopw [7] (fun i wr => ∃ k : Nat, k ≤ len0 ∧ i = .int .i64 k ∧ NineRel w bm c wr) (fun i _ => len0 - (intOf i).toNat)
    case atStart => exact ⟨0, Nat.zero_le _, rfl, HR.out⟩
    case round =>
      obtain ⟨k, hk, rfl, hR'⟩ := hrel
      clear HR
      have HR := Lib.hid hR'
      by_cases hlt : k < len0
      · obtain ⟨b, o, rfl, hb, hcells⟩ := HV.out (by omega)
        have hc0 := hcells k 0 hlt (by omega)
        have hc1 := hcells k 1 hlt (by omega)
        have hc2 := hcells k 2 hlt (by omega)
        have hc3 := hcells k 3 hlt (by omega)
        have hc4 := hcells k 4 hlt (by omega)
        rw [← hR'.cell hb] at hc0 hc1 hc2 hc3 hc4
        rw [Nat.add_zero] at hc0
        clear hR' hcells
        generalize f k 0 = kd at *
        generalize f k 1 = p at *
        generalize f k 2 = d at *
        generalize f k 3 = n at *
        generalize f k 4 = m at *
        by_cases hd : d = c
        · subst hd
          have hdd : (d == d) = true := by simp
          go_wp2_with fail
          go_roundw
          case rel => exact ⟨k + 1, by omega, by go_num, HR.out⟩
          case measure => simp [intOf]; omega
        · have hdd : (d == c) = false := by simpa using hd
          by_cases h1 : kd = 1
          · subst h1
            have HC := Lib.hid (ap_read HR.out.drew p d)
            clear hd
            go_wp2_with fail
            go_still_tail 11, (by kernel_rfl)
            change wpList _ _ _ _ _ wr.drew
            go_wp2_with fail
            refine HC.out.mono ?_
            rintro e w5 ⟨_, rfl, hR5, _⟩
            have H5 := Lib.hid hR5
            clear hR5
            go_wp2_with fail
            go_roundw
            case rel => exact ⟨k + 1, by omega, by go_num, H5.out⟩
            case measure => simp [intOf]; omega
          by_cases h2 : kd = 2
          · subst h2
            have HC := Lib.hid (ap_write HR.out.drew p d n hd)
            clear hd
            go_wp2_with fail
            go_still_tail 16, (by kernel_rfl)
            change wpList _ _ _ _ _ wr.drew
            go_wp2_with fail
            refine HC.out.mono ?_
            rintro e w5 ⟨rfl, hR5⟩
            have H5 := Lib.hid hR5
            clear hR5
            go_wp2_with fail
            go_roundw
            case rel => exact ⟨k + 1, by omega, by go_num, H5.out⟩
            case measure => simp [intOf]; omega
          by_cases h3 : kd = 3
          · subst h3
            have HC := Lib.hid (ap_swap HR.out.drew p d n m hd)
            clear hd
            go_wp2_with fail
            go_still_tail 21, (by kernel_rfl)
            change wpList _ _ _ _ _ wr.drew
            go_wp2_with fail
            refine HC.out.mono ?_
            rintro e w5 ⟨_, rfl, hR5⟩
            have H5 := Lib.hid hR5
            clear hR5
            go_wp2_with fail
            go_roundw
            case rel => exact ⟨k + 1, by omega, by go_num, H5.out⟩
            case measure => simp [intOf]; omega
          by_cases h4 : kd = 4
          · subst h4
            have HC := Lib.hid (ap_add HR.out.drew p d n hd)
            clear hd
            go_wp2_with fail
            go_still_tail 16, (by kernel_rfl)
            change wpList _ _ _ _ _ wr.drew
            go_wp2_with fail
            refine HC.out.mono ?_
            rintro e w5 ⟨_, rfl, hR5⟩
            have H5 := Lib.hid hR5
            clear hR5
            go_wp2_with fail
            go_roundw
            case rel => exact ⟨k + 1, by omega, by go_num, H5.out⟩
            case measure => simp [intOf]; omega
          have g1 : (kd == 1) = false := by simpa using h1
          have g2 : (kd == 2) = false := by simpa using h2
          have g3 : (kd == 3) = false := by simpa using h3
          have g4 : (kd == 4) = false := by simpa using h4
          clear h1 h2 h3 h4 hd
          go_wp2_with fail
          go_roundw
          case rel => exact ⟨k + 1, by omega, by go_num, HR.out⟩
          case measure => simp [intOf]; omega
      · have HC := Lib.hid (ap_read9 hR' 1)
        clear hR'
        go_wp2_with fail
        refine HC.out.mono ?_
        rintro e w5 ⟨rfl, hR5⟩
        have H5 := Lib.hid hR5
        have HL := Lib.hid (ap_len hR5)
        clear hR5
        go_wp2_with fail
        refine HL.out.mono ?_
        rintro e w6 ⟨rfl, rfl⟩
        go_wp2_with fail
        go_ret
        exact ⟨rfl, H5.out.below⟩
  · have hc' : 200 < len0 ∨ (¬ 200 < len0 ∧ c < 0) ∨ (¬ 200 < len0 ∧ ¬ c < 0 ∧ 5 ≤ c) := by omega
    clear hcond
    rcases hc' with c1 | ⟨c1, c2⟩ | ⟨c1, c2, c3⟩
    all_goals
      go_enter Try.func5, Try.ntmps5
      go_wp2_with fail
      refine (awake14 w).mono ?_
      rintro e wa ⟨rfl, hBa⟩
      go_wp2_with fail
      refine (mach_new wa 2 (by omega)).mono ?_
      rintro e w2 ⟨bm, vs, rfl, hM1, hK1, hF1⟩
      have HB := Lib.hid (hBa.trans (hK1.below (by simp) hBa.size))
      clear hBa hK1 hM1 hF1
      go_wp2_with fail
      go_ret
      exact ⟨rfl, HB.out⟩
end Go.Proofs.Ytjbmfmhibmnaiaa
