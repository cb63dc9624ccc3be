/-
  Layer 14: MachineOnce returns true, whatever the numbers.
-/
import Derived.Test.YtjbmfmhibmnaiaaAwk14
namespace Go.Proofs.Ytjbmfmhibmnaiaa
set_option linter.unusedVariables false
set_option linter.unusedSimpArgs false
open Go.RowKit

/-- WHAT THE WALK IS TOLD OF A SLICE OF INTEGERS THAT CAME IN. -/
def IsRow (k : IntKind) (w : World) (a : Option Addr) (len cap : Nat) (zs : List Int) : Prop :=
  (a = none ∧ len = 0 ∧ cap = 0 ∧ zs = []) ∨
  ∃ x, a = some x ∧ len ≤ cap ∧ cap ≤ maxLen ∧ zs.length = cap ∧ (∀ i, i < zs.length → w.cell? (x.add i) = some (.int k (zs.getD i 0))) ∧ ∀ n ∈ zs, (Lit.int k n).wf = true

theorem IsRow.le {k : IntKind} {w : World} {a : Option Addr} {len cap : Nat} {zs : List Int} (h : IsRow k w a len cap zs) : len ≤ zs.length ∧ zs.length = cap ∧ cap ≤ 9223372036854775807 := by
  rcases h with ⟨_, rfl, rfl, rfl⟩ | ⟨x, _, h1, h2, h3, _⟩
  · simp
  · simp only [maxLen] at h2; omega
theorem IsRow.cell {k : IntKind} {w : World} {a : Option Addr} {len cap : Nat} {zs : List Int} (h : IsRow k w a len cap zs) {i : Nat} (hi : i < len) : ∃ b o, a = some ⟨b, o, none⟩ ∧ w.cell? ⟨b, o + i, none⟩ = some (.int k (zs.getD i 0)) ∧ b < w.heap.size := by
  rcases h with ⟨_, rfl, rfl, rfl⟩ | ⟨x, rfl, h1, h2, h3, h4, _⟩
  · omega
  · have hc := h4 i (by omega)
    have hs := World.cell?_spot (h4 0 (by omega))
    obtain ⟨b, o, spot⟩ := x
    have : spot = none := by simpa [Addr.add] using hs
    subst this
    have hadd : (⟨b, o, none⟩ : Addr).add i = ⟨b, o + i, none⟩ := by unfold Addr.add; split <;> simp_all
    rw [hadd] at hc
    exact ⟨b, o, rfl, hc, World.block_lt_of_cell? _ _ hc⟩
theorem IsRow.one {k : IntKind} {w : World} {a : Option Addr} {len cap : Nat} {zs : List Int} (h : IsRow k w a len cap zs) (hl : 0 < len) : ∃ b o, a = some ⟨b, o, none⟩ ∧ b < w.heap.size ∧ ∀ i, i < len → w.cell? ⟨b, o + i, none⟩ = some (.int k (zs.getD i 0)) := by
  obtain ⟨b, o, rfl, _, hb⟩ := h.cell hl
  refine ⟨b, o, rfl, hb, fun i hi => ?_⟩
  obtain ⟨b', o', e, hc, _⟩ := h.cell hi
  simp at e
  obtain ⟨rfl, rfl⟩ := e
  exact hc

/-- One cell's machine behind some swaps: the first number that is not nought. -/
def onceM (s : List Int) (f : Int) : MS := ⟨[f], s⟩

theorem once_swap (s : List Int) (f : Int) (p n : Int) : ∃ s', (onceM s f).swap p 0 0 n = onceM s' (if f = 0 then n else f) ∧ (onceM s f).swaps 0 0 = decide (f = 0) := by
  have hh : (onceM s f).has 0 := by simp [MS.has, onceM]
  have hg : (onceM s f).get 0 = f := by unfold MS.get; rw [if_pos hh]; rfl
  have hp : ∀ p, ∃ s', (onceM s f).step p = onceM s' f := by
    intro p; unfold MS.step; split
    · exact ⟨_, rfl⟩
    · exact ⟨s, rfl⟩
  obtain ⟨s', hs'⟩ := hp p
  refine ⟨s', ?_, by simp [MS.swaps, hh, hg]⟩
  unfold MS.swap
  rw [hg, hs']
  by_cases h0 : f = 0
  · subst h0
    rw [if_pos ⟨hh, rfl⟩, if_pos rfl]
    have : (onceM s' 0).has 0 := by simp [MS.has, onceM]
    unfold MS.put
    rw [if_pos this]
    rfl
  · rw [if_neg (fun h => h0 h.2), if_neg h0]
theorem once_read (s : List Int) (f : Int) : (onceM s f).get 0 = f := by
  have hh : (onceM s f).has 0 := by simp [MS.has, onceM]
  unfold MS.get
  rw [if_pos hh]
  rfl

/-- What the loop's head knows. -/
def OnceRel (w : World) (bm : Nat) (f : Int) (wr : World) : Prop :=
  ∃ vc vs s, Mach wr bm vc vs (onceM s f) ∧ Below w.heap.size w wr ∧ ∀ k, machF bm vc vs k → w.heap.size ≤ k
theorem OnceRel.cell {w wr : World} {bm : Nat} {f : Int} (h : OnceRel w bm f wr) {b o : Nat} (hb : b < w.heap.size) : wr.cell? ⟨b, o, none⟩ = w.cell? ⟨b, o, none⟩ := by
  obtain ⟨vc, vs, s, _, hb', _⟩ := h
  exact hb'.cell (p := ⟨b, o, none⟩) hb
theorem once_step {w wr : World} {bm : Nat} {f : Int} (h : OnceRel w bm f wr) (p n : Int) :
    Calls Try.prog 12 #[.pointer (some ⟨bm, 0, none⟩), .int .i64 p, .int .i64 0, .int .i64 0, .int .i64 n] wr fun e w' => e = .returned (.bool (decide (f = 0))) ∧ OnceRel w bm (if f = 0 then n else f) w' := by
  obtain ⟨vc, vs, s, hM, hb, hF⟩ := h
  obtain ⟨s', e1, e2⟩ := once_swap s f p n
  refine (mach_swap hM p 0 0 n).mono ?_
  rintro e w' ⟨rfl, hM', hK⟩
  rw [e1] at hM'
  rw [e2]
  exact ⟨rfl, vc, vs, s', hM', hb.trans (hK.below hF hb.size), hF⟩

set_option maxHeartbeats 1600000 in
theorem once_walk (a0 : Option Addr) (len0 cap0 : Nat) (z0 : List Int) (w : World) (w0 : IsRow .i64 w a0 len0 cap0 z0) :
    Calls Try.prog 3 #[.slice a0 len0 cap0] w (Tells w true) := by
  obtain ⟨hl1, hl2, hl3⟩ := w0.le
  go_enter Try.func3, Try.ntmps3
  go_wp2_with fail
  refine (awake14 w).mono ?_
  rintro e wa ⟨rfl, hBa⟩
  go_wp2_with fail
  refine (mach_new wa 3 (by omega)).mono ?_
  rintro e w1 ⟨bm, vs, rfl, hM1, hK1, hF1⟩
  have H1 := Lib.hid hF1
  clear hF1
  by_cases h100 : len0 ≤ 100
  · go_wp2_with fail
    refine (mach_cells hM1 1 (by simp)).mono ?_
    rintro e w2 ⟨rfl, vc, hM2, hK2, hF2⟩
    have hR : OnceRel w bm 0 w2 := by
      have s0 := hBa.size
      have s1 := hK1.size
      have hb1 : ∀ k, machF bm (.slice none 0 0) vs k → w.heap.size ≤ k := fun k hk => Nat.le_trans s0 (H1.out k hk)
      exact ⟨vc, vs, _, hM2, (hBa.trans (hK1.below (by simp) s0)).trans (hK2.below hb1 (by omega)), grow_ge hb1 hF2 (by omega)⟩
    clear hM1 hK1 H1 hM2 hK2 hF2 hBa
    go_wp2_with fail
    go_loopw [6, 7] (fun fv i wr => ∃ (k : Nat) (f : Int), k ≤ len0 ∧ i = .int .i64 k ∧ fv = .int .i64 f ∧ OnceRel w bm f wr) (fun _ i _ => len0 - (intOf i).toNat)
    case atStart => exact ⟨0, 0, Nat.zero_le _, rfl, rfl, hR⟩
    case round =>
      obtain ⟨k, f, hk, rfl, rfl, hR'⟩ := hrel
      clear hR
      by_cases hlt : k < len0
      · obtain ⟨b, o, rfl, hb, hcells⟩ := w0.one (by omega)
        have hc := hcells k hlt
        rw [← hR'.cell hb] at hc
        generalize z0.getD k 0 = z at hc
        have HR := Lib.hid hR'
        clear hR' hcells w0
        by_cases hz : z = 0
        · subst hz
          go_wp2_with fail
          go_roundw
          case rel => exact ⟨k + 1, f, by omega, by go_num, rfl, HR.out⟩
          case measure => simp [intOf]; omega
        · have hz' : (z == 0) = false := by simpa using hz
          by_cases hf : f = 0
          · subst hf
            have c := once_step HR.out ((k : Int) % 3) z
            rw [if_pos rfl, decide_eq_true rfl] at c
            have HS := Lib.hid c
            clear hz c
            go_wp2_with fail
            refine HS.out.mono ?_
            rintro e w3 ⟨rfl, hR3⟩
            have hc3 : w3.cell? ⟨b, o + k, none⟩ = some (.int .i64 z) := by rw [hR3.cell hb, ← HR.out.cell hb]; exact hc
            have H3 := Lib.hid hR3
            clear hR3
            go_wp2_with fail
            go_roundw
            case rel => exact ⟨k + 1, z, by omega, by go_num, rfl, H3.out⟩
            case measure => simp [intOf]; omega
          · have c := once_step HR.out ((k : Int) % 3) z
            rw [if_neg hf, decide_eq_false hf] at c
            have HS := Lib.hid c
            have hf' : (f == 0) = false := by simpa using hf
            clear hz c hf
            go_wp2_with fail
            refine HS.out.mono ?_
            rintro e w3 ⟨rfl, hR3⟩
            have H3 := Lib.hid hR3
            clear hR3
            go_wp2_with fail
            go_roundw
            case rel => exact ⟨k + 1, f, by omega, by go_num, rfl, H3.out⟩
            case measure => simp [intOf]; omega
      · have hread : Calls Try.prog 13 #[.pointer (some ⟨bm, 0, none⟩), .int .i64 0, .int .i64 0] wr fun e w' => e = .returned (.int .i64 f) ∧ Below w.heap.size w w' := by
          obtain ⟨vc, vs, s, hM, hb, hF⟩ := hR'
          refine (mach_read hM 0 0).mono ?_
          rintro e w' ⟨rfl, hM', hK⟩
          rw [once_read]
          exact ⟨rfl, hb.trans (hK.below hF hb.size)⟩
        have HR := Lib.hid hread
        have hff : (f == f) = true := by simp
        clear hread hR' w0
        go_wp2_with fail
        refine HR.out.mono ?_
        rintro e w3 ⟨rfl, hB3⟩
        have HB := Lib.hid hB3
        clear hB3
        go_wp2_with fail
        go_ret
        exact ⟨rfl, HB.out⟩
  · have s0 := hBa.size
    have HB := Lib.hid (hBa.trans (hK1.below (by simp) s0))
    clear hBa hK1 hM1 H1
    go_wp2_with fail
    go_ret
    exact ⟨rfl, HB.out⟩
end Go.Proofs.Ytjbmfmhibmnaiaa
