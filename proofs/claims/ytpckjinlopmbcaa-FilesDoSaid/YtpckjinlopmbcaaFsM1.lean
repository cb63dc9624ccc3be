/-
  Package files: may, pick, did, find, On, Cut.
-/
import Derived.Test.YtpckjinlopmbcaaFsW
import Derived.Outline
namespace Go.Proofs.Ytpckjinlopmbcaa
set_option linter.unusedVariables false
set_option maxRecDepth 100000
set_option linter.unusedSimpArgs false
open Go.RowKit Go.Maps

theorem fs_may (w : World) (n : Int) : Calls Try.prog 28 #[.int .i64 n] w fun e w' => e = .returned (.bool (decide (mayN n))) ∧ w' = w := by
  by_cases h : 0 ≤ n
  · have hd : (decide (mayN n)) = decide (n < 1048576) := by unfold mayN; simp [h]
    rw [hd]
    have h1 : decide (0 ≤ n) = true := by simpa using h
    go_enter Try.func28, Try.ntmps28
    go_wp2
    go_ret
    simp
  · have hd : (decide (mayN n)) = false := by unfold mayN; simp [h]
    rw [hd]
    have h1 : decide (0 ≤ n) = false := by simpa using h
    go_enter Try.func28, Try.ntmps28
    go_wp2
    go_ret
    simp
theorem pickN_le (n : Int) (most : Nat) : pickN n most ≤ most := by
  unfold pickN
  split
  · exact Nat.zero_le _
  · have := Int.emod_lt_of_pos n (show (0 : Int) < (most : Int) + 1 by omega)
    omega
theorem fs_pick (w : World) (n : Int) (most : Nat) (hm : most < 1000000000) : Calls Try.prog 34 #[.int .i64 n, .int .i64 most] w fun e w' => e = .returned (.int .i64 (pickN n most)) ∧ w' = w := by
  by_cases h : n < 0
  · have hd : pickN n most = 0 := by unfold pickN; rw [if_pos h]
    rw [hd]
    have h1 : decide (n < 0) = true := by simpa using h
    go_enter Try.func34, Try.ntmps34
    go_wp2
    go_ret
    simp
  · have h1 : decide (n < 0) = false := by simpa using h
    have hl := pickN_le n most
    have hw1 : IntKind.i64.wrap ((most : Int) + 1) = (most : Int) + 1 := IntWalk.i64_in _ (by omega)
    have nz : ((most : Int) + 1 == 0) = false := by simp; omega
    have nz' : ¬ (most : Int) + 1 = 0 := by omega
    have hp : ((pickN n most : Nat) : Int) = n % ((most : Int) + 1) := by
      unfold pickN
      rw [if_neg h]
      have := Int.emod_nonneg n nz'
      omega
    have tm : n.tmod ((most : Int) + 1) = (pickN n most : Int) := by rw [hp]; exact Int.tmod_eq_emod_of_nonneg (by omega)
    have q1 : IntKind.i64.wrap (pickN n most : Int) = (pickN n most : Int) := IntWalk.i64_in _ (by omega)
    generalize pickN n most = r at *
    go_enter Try.func34, Try.ntmps34
    go_wp2
    go_ret
    exact ⟨rfl, rfl⟩
section
variable {w w' : World} {base bd m : Nat} {fp : Nat → Prop} {R : FRef} {S : FS}
/-- A write into the disk's own block. -/
theorem DParts.disk (h : DParts w fp R S) (hi : FInv S) {cs : Array Value} (hB : Blk w bd cs 60) (k : Keeps (fun q => q = bd) w w') : DParts w' fp R S where
  kept := ownD_keeps h.kept k (ownD_ne h.kept hB)
  now := ownD_keeps h.now k (ownD_ne h.now hB)
  ne := h.ne
  fpk := h.fpk
  fpn := h.fpn
  files := h.files.keeps k (fun f hf => blk_ne (h.files.blk f hf) hB (by decide)) (fun f q hf hq e => own_blk_ne (h.files.own f hf) hB (by decide) (e ▸ hq)) (fun _ h => h) (fun _ _ => rfl) (fun _ _ => rfl)
  waits := h.waits.keeps (many := S.many) k (fun q hq e => own_blk_ne h.waits.own hB (by decide) (e ▸ hq)) (fun q _ hb => by
    obtain ⟨v, T, hT, hv⟩ := hb
    rcases hT with rfl | rfl
    · exact blk_ne hv hB (by decide)
    · exact blk_ne hv hB (by decide)) (fun _ h => h) hi.wlt (fun _ _ => rfl) rfl rfl
/-- What of a disk its names, files and changes do not tell. -/
theorem DParts.more (h : DParts w fp R S) (o a : Bool) (l : Int) : DParts w fp R { S with out := o, armed := a, left := l } := ⟨h.kept, h.now, h.ne, h.fpk, h.fpn, h.files, h.waits⟩
theorem FInv.more (h : FInv S) (o a : Bool) (l : Int) : FInv { S with out := o, armed := a, left := l } := ⟨h.kept, h.now, h.lt, h.wlt, h.le, h.eq⟩
theorem Small.more (h : Small S m) (o a : Bool) {l : Int} (h1 : -9223372036854775808 ≤ l ∧ l ≤ 9223372036854775807) (h2 : a = true → 1 ≤ l) : Small { S with out := o, armed := a, left := l } m := ⟨h.top, h.room, h1, h2, h.many, h.dirs, h.nowl, h.len⟩
theorem DRep.more (h : DRep w base fp bd R m S) (o a : Bool) {l : Int} (h1 : -9223372036854775808 ≤ l ∧ l ≤ 9223372036854775807) (h2 : a = true → 1 ≤ l) (hB : Blk w' bd (dskV R { S with out := o, armed := a, left := l }) 60) (k : Keeps (fun q => q = bd) w w') : DRep w' base fp bd R m { S with out := o, armed := a, left := l } :=
  ⟨⟨hB, h.fpd, (h.parts.disk h.inv h.blk k).more o a l, h.inv.more o a l, fun q hq => ⟨(h.lt q hq).1, Nat.lt_of_lt_of_le (h.lt q hq).2 k.size⟩⟩, h.small.more o a h1 h2⟩
set_option maxHeartbeats 800000 in
theorem fs_did (h : DRep w base fp bd R m S) : Calls Try.prog 31 #[.pointer (some ⟨bd, 0, none⟩)] w fun e w' => e = .returned (.int .i64 0) ∧ DRep w' base fp bd R m S.did ∧ Keeps (fun q => q = bd) w w' := by
  have c4 : w.cell? ⟨bd, 4, none⟩ = some (.bool S.out) := h.blk.cell 4
  have c5 : w.cell? ⟨bd, 5, none⟩ = some (.bool S.armed) := h.blk.cell 5
  have c6 : w.cell? ⟨bd, 6, none⟩ = some (.int .i64 S.left) := h.blk.cell 6
  by_cases ha : S.armed = true
  · have e0 : S.did = { S with out := decide (S.left - 1 ≤ 0), armed := !decide (S.left - 1 ≤ 0), left := S.left - 1 } := by unfold FS.did; rw [if_pos ha]
    have hl := h.small.leftA ha
    have hl2 := h.small.left
    rw [e0]
    rw [ha] at c5
    have f4 := h.blk.frozen 4
    have f5 := h.blk.frozen 5
    have f6 := h.blk.frozen 6
    have hw1 : IntKind.i64.wrap (S.left - 1) = S.left - 1 := IntWalk.i64_in _ (by omega)
    have fin : ∀ w', w' = ((w.setCell ⟨bd, 6, none⟩ (.int .i64 (S.left - 1))).setCell ⟨bd, 4, none⟩ (.bool (decide (S.left - 1 ≤ 0)))).setCell ⟨bd, 5, none⟩ (.bool (!decide (S.left - 1 ≤ 0))) → DRep w' base fp bd R m { S with out := decide (S.left - 1 ≤ 0), armed := !decide (S.left - 1 ≤ 0), left := S.left - 1 } ∧ Keeps (fun q => q = bd) w w' := by
      rintro w' rfl
      have k := (((Keeps.refl (fun q => q = bd) w).set bd 6 (.inl rfl) (.int .i64 (S.left - 1))).set bd 4 (.inl rfl) (.bool (decide (S.left - 1 ≤ 0)))).set bd 5 (.inl rfl) (.bool (!decide (S.left - 1 ≤ 0)))
      refine ⟨h.more _ _ (by omega) (fun e => by simp at e; omega) ?_ k, k⟩
      have := ((h.blk.set 6 (.int .i64 (S.left - 1))).set 4 (.bool (decide (S.left - 1 ≤ 0)))).set 5 (.bool (!decide (S.left - 1 ≤ 0)))
      simpa [dskV] using this
    have FIN := Lib.hid fin
    clear fin h e0
    go_enter Try.func31, Try.ntmps31
    go_wp2
    go_ret
    exact ⟨rfl, FIN.out _ rfl⟩
  · have ha' : S.armed = false := by simpa using ha
    have e0 : S.did = S := by unfold FS.did; rw [if_neg ha]
    rw [e0]
    rw [ha'] at c5
    have HH := Lib.hid h
    clear h e0 ha ha'
    go_enter Try.func31, Try.ntmps31
    go_wp2
    go_ret
    exact ⟨rfl, HH.out, Keeps.refl _ _⟩
/-- What find answers. -/
def findV (R : FRef) (S : FS) (n : Int) : Value := if S.why n = 0 then .pointer (some ⟨R.fb (S.fid n), 0, none⟩) else .pointer none
set_option maxHeartbeats 800000 in
theorem fs_find (h : DRep w base fp bd R m S) {n : Int} (hn : (Lit.int .i64 n).wf = true) : Calls Try.prog 32 #[.pointer (some ⟨bd, 0, none⟩), .int .i64 n] w fun e w' => e = .returned (.tuple #[findV R S n, .int .i64 (S.why n)]) ∧ w' = w := by
  have c2 : w.cell? ⟨bd, 2, none⟩ = some (.map (some R.bn)) := h.blk.cell 2
  have c4 : w.cell? ⟨bd, 4, none⟩ = some (.bool S.out) := h.blk.cell 4
  have hlk := look_dir h.parts.now hn
  clear h hn
  cases ho : S.out
  · rw [ho] at c4
    unfold ptrD at hlk
    cases ha : atD S.now n with
    | none =>
      have e1 : S.why n = 8 := by simp [FS.why, ho, ha]
      have e2 : findV R S n = .pointer none := by simp [findV, e1]
      rw [e1, e2]
      simp only [ha] at hlk
      clear e1 e2
      go_enter Try.func32, Try.ntmps32
      go_wp2
      go_ret2
      exact ⟨rfl, rfl⟩
    | some f =>
      have e1 : S.why n = 0 := by simp [FS.why, ho, ha]
      have e2 : findV R S n = .pointer (some ⟨R.fb f, 0, none⟩) := by simp [findV, e1, FS.fid, ha]
      rw [e1, e2]
      simp only [ha] at hlk
      clear e1 e2
      go_enter Try.func32, Try.ntmps32
      go_wp2
      go_ret2
      exact ⟨rfl, rfl⟩
  · rw [ho] at c4
    have e1 : S.why n = 11 := by simp [FS.why, ho]
    have e2 : findV R S n = .pointer none := by simp [findV, e1]
    rw [e1, e2]
    clear e1 e2
    generalize ptrD R.fb S.now n = pv at hlk
    go_enter Try.func32, Try.ntmps32
    go_wp2
    go_ret2
    exact ⟨rfl, rfl⟩
theorem fs_on (h : DRep w base fp bd R m S) : Calls Try.prog 27 #[.pointer (some ⟨bd, 0, none⟩)] w fun e w' => e = .returned (.bool (!S.out)) ∧ w' = w := by
  have c4 : w.cell? ⟨bd, 4, none⟩ = some (.bool S.out) := h.blk.cell 4
  clear h
  go_enter Try.func27, Try.ntmps27
  go_wp2
  go_ret
  exact ⟨rfl, rfl⟩
set_option maxHeartbeats 800000 in
theorem fs_cut (h : DRep w base fp bd R m S) {n : Int} (hn : -9223372036854775808 ≤ n ∧ n ≤ 9223372036854775807) : Calls Try.prog 14 #[.pointer (some ⟨bd, 0, none⟩), .int .i64 n] w fun e w' => e = .returned (.tuple #[]) ∧ DRep w' base fp bd R m (S.cut n) ∧ Keeps (fun q => q = bd) w w' := by
  have c4 : w.cell? ⟨bd, 4, none⟩ = some (.bool S.out) := h.blk.cell 4
  have c5 : w.cell? ⟨bd, 5, none⟩ = some (.bool S.armed) := h.blk.cell 5
  have c6 : w.cell? ⟨bd, 6, none⟩ = some (.int .i64 S.left) := h.blk.cell 6
  have f4 := h.blk.frozen 4
  have f5 := h.blk.frozen 5
  have f6 := h.blk.frozen 6
  have fin : ∀ w', w' = ((w.setCell ⟨bd, 5, none⟩ (.bool (decide (1 ≤ n)))).setCell ⟨bd, 6, none⟩ (.int .i64 n)).setCell ⟨bd, 4, none⟩ (.bool (S.out || decide (n < 1))) → DRep w' base fp bd R m (S.cut n) ∧ Keeps (fun q => q = bd) w w' := by
    rintro w' rfl
    have k := (((Keeps.refl (fun q => q = bd) w).set bd 5 (.inl rfl) (.bool (decide (1 ≤ n)))).set bd 6 (.inl rfl) (.int .i64 n)).set bd 4 (.inl rfl) (.bool (S.out || decide (n < 1)))
    refine ⟨h.more _ _ hn (fun e => by simpa using e) ?_ k, k⟩
    have := ((h.blk.set 5 (.bool (decide (1 ≤ n)))).set 6 (.int .i64 n)).set 4 (.bool (S.out || decide (n < 1)))
    simpa [dskV] using this
  have FIN := Lib.hid fin
  clear fin h
  cases ho : S.out
  · rw [ho] at c4 FIN
    go_enter Try.func14, Try.ntmps14
    go_wp2
    go_end0
    exact ⟨rfl, FIN.out _ (by simp)⟩
  · rw [ho] at c4 FIN
    go_enter Try.func14, Try.ntmps14
    go_wp2
    go_end0
    exact ⟨rfl, FIN.out _ (by simp)⟩
end
end Go.Proofs.Ytpckjinlopmbcaa
