/-
  Package machine: New, Cells, Steps, Len.
-/
import Derived.Test.YtjbmfmhibmnaiaaMachM
import Derived.Deep.OwnRows
namespace Go.Proofs.Ytjbmfmhibmnaiaa
set_option linter.unusedVariables false
set_option linter.unusedSimpArgs false
open Go.RowKit

theorem infoInt : (Try.prog.info? 3).map (fun i => (i.zero, i.size, i.bytes)) = some (some (.int .i64 0), 1, 8) := by kernel_rfl

set_option maxHeartbeats 800000 in
theorem mach_len {w : World} {bm : Nat} {vc vs : Value} {M : MS} (h : Mach w bm vc vs M) :
    Calls Try.prog 17 #[.pointer (some ⟨bm, 0, none⟩)] w fun e w' =>
      e = .returned (.int .i64 M.cells.length) ∧ w' = w := by
  have h0 : w.cell? ⟨bm, 0, none⟩ = some vc := by rw [h.blk.cell]; rfl
  obtain ⟨ac, cc, rfl⟩ := h.ofLenC
  clear h
  go_enter Try.func17, Try.ntmps17
  go_wp2
  go_ret
  exact ⟨rfl, rfl⟩

set_option maxHeartbeats 800000 in
theorem mach_steps {w : World} {bm : Nat} {vc vs : Value} {M : MS} (h : Mach w bm vc vs M) (p : Int) :
    Calls Try.prog 15 #[.pointer (some ⟨bm, 0, none⟩), .int .i64 p] w fun e w' =>
      e = .returned (.int .i64 (M.stepsOf p)) ∧ w' = w := by
  have h1 : w.cell? ⟨bm, 1, none⟩ = some vs := by rw [h.blk.cell]; rfl
  have hls := h.lenS
  by_cases hp : 0 ≤ p ∧ p < M.steps.length
  · have hso : M.stepsOf p = M.steps.getD p.toNat 0 := by unfold MS.stepsOf; rw [if_pos hp]
    obtain ⟨gs, cs, q, s, rfl, hq, rfl, hs, hsf, hsl, hsb, hst⟩ := h.viewS hp
    have hsv : M.stepsOf q = s := by
      have := World.ownsRow.cellAt h.steps q (by omega)
      rw [ints_get _ _ hq, hs] at this
      rw [hso]
      simp at this
      simp [this]
    rw [hsv]
    clear h hst hso hsv
    go_enter Try.func15, Try.ntmps15
    go_wp2
    go_ret
    exact ⟨rfl, rfl⟩
  · have hso : M.stepsOf p = 0 := by unfold MS.stepsOf; rw [if_neg hp]
    rw [hso]
    obtain ⟨as0, cs, rfl⟩ := h.ofLenS
    clear h hso
    have hp' : p < 0 ∨ (¬ p < 0 ∧ ¬ p < M.steps.length) := by omega
    clear hp
    rcases hp' with hp | ⟨hp, hp2⟩
    all_goals
      go_enter Try.func15, Try.ntmps15
      go_wp2
      go_ret
      exact ⟨rfl, rfl⟩

theorem ints_replicate (n : Nat) (z : Int) : ints (List.replicate n z) = List.replicate n (.int .i64 z) := by simp [ints]

theorem mach_made (w : World) (n : Nat) (hn : n ≤ 17592186044416) : Mach ((w.alloc (.cells (madeCells #[.int .i64 0] n) 3)).alloc (.cells #[.slice none 0 0, .slice (some ⟨w.heap.size, 0, none⟩) n n] 57)) (w.heap.size + 1) (.slice none 0 0) (.slice (some ⟨w.heap.size, 0, none⟩) n n) ⟨[], List.replicate n 0⟩ := by
  have hm : n ≤ maxLen := by simp only [maxLen]; omega
  refine ⟨?_, ⟨by simp [ints], .inl ⟨rfl, rfl⟩⟩, ?_, by intro k hk; simp [Value.ownBlock] at hk, by simp, by simpa using hn⟩
  · have := Blk.new (w.alloc (.cells (madeCells #[.int .i64 0] n) 3)) #[.slice none 0 0, .slice (some ⟨w.heap.size, 0, none⟩) n n] 57
    simpa using this
  · rw [ints_replicate, List.length_replicate]
    exact own_keeps (F := fun _ => False) (own_made w _ _ n hm) ((Keeps.refl _ _).alloc _) (by simp)

/-- What New leaves. -/
def NewPost (w : World) (n : Int) (e : Ending) (w' : World) : Prop :=
  ∃ bm vs, e = .returned (.pointer (some ⟨bm, 0, none⟩)) ∧ Mach w' bm (.slice none 0 0) vs ⟨[], List.replicate n.toNat 0⟩ ∧ Keeps (fun _ => False) w w' ∧ (∀ k, machF bm (.slice none 0 0) vs k → w.heap.size ≤ k)
/-- What Cells leaves. -/
def CellsPost (w : World) (bm : Nat) (vc vs : Value) (M : MS) (n : Nat) (e : Ending) (w' : World) : Prop :=
  e = .returned (.int .i64 M.cells.length) ∧ ∃ vc', Mach w' bm vc' vs ⟨M.cells ++ List.replicate n 0, M.steps⟩ ∧ Keeps (machF bm vc vs) w w' ∧ (∀ k, machF bm vc' vs k → machF bm vc vs k ∨ w.heap.size ≤ k)

theorem new_fin (w : World) (q : Nat) (hq : q ≤ 1099511627776) (n : Int) (hn : n.toNat = q) : NewPost w n (Ending.returned (.pointer (some ⟨w.heap.size + 1, 0, none⟩))) ((w.alloc (.cells (madeCells #[.int .i64 0] q) 3)).alloc (.cells #[.slice none 0 0, .slice (some ⟨w.heap.size, 0, none⟩) q q] 57)) := by
  subst hn
  refine ⟨_, _, rfl, mach_made w _ (by omega), ((Keeps.refl _ w).alloc _).alloc _, ?_⟩
  rintro k (rfl | hk | hk)
  · omega
  · simp [Value.ownBlock] at hk
  · simp [Value.ownBlock] at hk
    omega

set_option maxHeartbeats 800000 in
theorem mach_new (w : World) (n : Int) (hn : n ≤ 1099511627776) :
    Calls Try.prog 10 #[.int .i64 n] w (NewPost w n) := by
  by_cases h0 : n < 0
  · have hmk := run_make_row' (P := Try.prog) 22 3 (.int .i64 0) 8 Try.underlying22 infoInt rfl .i64 .i64 0 (by omega) (by omega)
    have HF := Lib.hid (new_fin w 0 (by omega) n (by omega))
    simp only [Int.natCast_zero] at hmk
    go_enter Try.func10, Try.ntmps10
    go_wp2
    go_ret
    exact HF.out
  · obtain ⟨q, rfl⟩ := Int.eq_ofNat_of_zero_le (show 0 ≤ n by omega)
    have hmk := run_make_row' (P := Try.prog) 22 3 (.int .i64 0) 8 Try.underlying22 infoInt rfl .i64 .i64 q (by omega) (by omega)
    have HF := Lib.hid (new_fin w q (by omega) q (by omega))
    go_enter Try.func10, Try.ntmps10
    go_wp2
    go_ret
    exact HF.out

theorem cells_fin (w w1 : World) (bm : Nat) (vc vs : Value) (M : MS) (h : Mach w bm vc vs M) (q : Nat) (hn : M.cells.length ≤ 1099511627776) (hq : q ≤ 1048576) (v' : Value)
    (hown : Own w1 3 1 v' (M.cells.length + q) (ints M.cells ++ List.replicate q (.int .i64 0))) (hg : w.grownBy w1 vc.ownBlock) (hat : v'.ownBlock = vc.ownBlock ∨ v'.ownBlock = some w.heap.size) :
    CellsPost w bm vc vs M q (.returned (.int .i64 M.cells.length)) (w1.setCell ⟨bm, 0, none⟩ v') := by
  have kg : Keeps (machF bm vc vs) w w1 := (Keeps.refl _ w).grown hg (fun k hk => .inl (.inr (.inl hk)))
  have hb1 : Blk w1 bm #[vc, vs] 57 := (hg.block bm h.blk.lt (fun e => h.neC e.symm)).trans h.blk
  have hne : v'.ownBlock ≠ some bm := own_blk_ne hown hb1 (by decide)
  refine ⟨rfl, v', ⟨?_, ?_, ?_, ?_, ?_, h.lenS⟩, kg.set bm 0 (.inl (.inl rfl)) _, ?_⟩
  · simpa using hb1.set 0 v'
  · have := own_keeps hown (Keeps.one w1 ⟨bm, 0, none⟩ v') (fun b hb e => hne (by rw [hb]; exact congrArg some e))
    simpa [ints] using this
  · have h1 : Own w1 3 1 vs M.steps.length (ints M.steps) := own_keeps (F := fun k => vc.ownBlock = some k) h.steps ((Keeps.refl _ w).grown hg (fun k hk => .inl hk)) (fun b hb e => h.apart b e hb)
    exact own_keeps h1 (Keeps.one w1 ⟨bm, 0, none⟩ v') (fun b hb e => h.neS (by rw [hb]; exact congrArg some e))
  · intro k hk
    rcases hat with e | e
    · exact h.apart k (e ▸ hk)
    · intro hs
      have := own_lt h.steps hs
      rw [e] at hk
      simp at hk
      omega
  · simp only [List.length_append, List.length_replicate]
    omega
  · rintro k (rfl | hk | hk)
    · exact .inl (.inl rfl)
    · rcases hat with e | e
      · exact .inl (.inr (.inl (e ▸ hk)))
      · rw [e] at hk
        simp at hk
        omega
    · exact .inl (.inr (.inr hk))

set_option maxHeartbeats 800000 in
theorem mach_cells {w : World} {bm : Nat} {vc vs : Value} {M : MS} (h : Mach w bm vc vs M) (n : Int) (hn : M.cells.length ≤ 1099511627776) :
    Calls Try.prog 11 #[.pointer (some ⟨bm, 0, none⟩), .int .i64 n] w (CellsPost w bm vc vs M (if n ≤ 1048576 then n.toNat else 0)) := by
  have h0 : w.cell? ⟨bm, 0, none⟩ = some vc := by rw [h.blk.cell]; rfl
  have f0 := h.blk.frozen 0
  obtain ⟨ac, cc, hvc⟩ := h.ofLenC
  subst hvc
  by_cases hc : 1 ≤ n ∧ n ≤ 1048576
  · obtain ⟨q, rfl⟩ := Int.eq_ofNat_of_zero_le (show 0 ≤ n by omega)
    rw [if_pos hc.2, Int.toNat_natCast]
    obtain ⟨c1, c2⟩ := hc
    have hq0 : 1 ≤ q := by omega
    have H := Lib.hid h
    have hB := Lib.hid h.cells
    have hne : some bm ≠ (Value.slice ac M.cells.length cc).ownBlock := fun e => h.neC e.symm
    have HN := Lib.hid hne
    clear h hne
    go_enter Try.func11, Try.ntmps11
    go_wp2_with (at_builtin; refine wpList_append_zeros_own w rfl _ _ 22 3 3 rfl .i64 .i64 (.int .i64 0) 8 Try.underlying22 Try.underlying3 infoInt rfl rfl (by omega) (.slice ac M.cells.length cc) _ _ rfl hB.out q rfl (by omega) (by omega) ?_; intro v' w1 hown hgrow hat; obtain ⟨a1, c1, rfl⟩ := own_shape hown; have hc1 := hgrow.cell h0 HN.out; have hf1 := (World.frozen?_of_block (a := ⟨bm, 0, none⟩) (hgrow.block bm (World.block_lt_of_cell? _ _ h0) HN.out)).trans f0)
    go_ret
    exact cells_fin w w1 bm _ vs M H.out q hn (by omega) _ hown hgrow hat
  · have e0 : (if n ≤ 1048576 then n.toNat else 0) = 0 := by split <;> omega
    rw [e0]
    have fin : CellsPost w bm (.slice ac M.cells.length cc) vs M 0 (.returned (.int .i64 M.cells.length)) w := by
      refine ⟨rfl, _, ?_, Keeps.refl _ _, fun k hk => .inl hk⟩
      simpa using h
    have HF := Lib.hid fin
    have hn' : ¬ 1 ≤ n ∨ (1 ≤ n ∧ ¬ n ≤ 1048576) := by omega
    clear h fin hc e0
    rcases hn' with hn1 | ⟨hn1, hn2⟩
    all_goals
      go_enter Try.func11, Try.ntmps11
      go_wp2
      go_ret
      exact HF.out
end Go.Proofs.Ytjbmfmhibmnaiaa
