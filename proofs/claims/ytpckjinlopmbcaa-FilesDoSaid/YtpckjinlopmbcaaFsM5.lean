/-
  Package files: Sync, Remove, Rename, SyncDir.
-/
import Derived.Test.YtpckjinlopmbcaaFsM4
import Derived.Test.YtpckjinlopmbcaaFsL
namespace Go.Proofs.Ytpckjinlopmbcaa
set_option linter.unusedVariables false
set_option maxRecDepth 100000
set_option linter.unusedSimpArgs false
open Go.RowKit Go.Maps
section
variable {w w' : World} {base bd m : Nat} {fp fp' : Nat → Prop} {R : FRef} {S : FS}
theorem fpAll_iff {k : Nat} (h : k < w.heap.size) : fpAll fp w w' k ↔ fp k := ⟨fun h1 => h1.elim id (fun h2 => absurd h (by omega)), .inl⟩
/-- did, as the last of a method. -/
theorem fs_did_end {fp1 : Nat → Prop} {R1 : FRef} {S1 : FS} {w1 : World} (h1 : DRep w1 base fp1 bd R1 m S1) (hd : fp bd) (k1 : Keeps fp w w1) (hi : ∀ k, k < w.heap.size → (fp1 k ↔ fp k)) :
    Calls Try.prog 31 #[.pointer (some ⟨bd, 0, none⟩)] w1 fun e w2 => e = .returned (.int .i64 0) ∧ FsPost w base fp bd m S1.did (.int .i64 0) (.returned (.int .i64 0)) w2 :=
  (fs_did h1).mono fun e w2 ⟨e1, h2, k2⟩ => ⟨e1, rfl, _, _, h2, hi, k1.trans' (k2.mono (fun q e => by rw [e]; exact hd))⟩
/-- change, and did behind it. -/
theorem ChgP.fin {fp0 : Nat → Prop} {w0 w1 : World} {c : Chg} {v : Value} {e : Ending} (h : ChgP w0 base fp0 bd R S c v e w1) (hs : Small (S.change c) m) (hd : fp bd) (k0 : Keeps fp w w0) (hle : w.heap.size ≤ w0.heap.size) (hi : ∀ k, k < w.heap.size → (fp0 k ↔ fp k)) :
    e = .returned (.tuple #[]) ∧ Calls Try.prog 31 #[.pointer (some ⟨bd, 0, none⟩)] w1 fun e w2 => e = .returned (.int .i64 0) ∧ FsPost w base fp bd m (S.change c).did (.int .i64 0) (.returned (.int .i64 0)) w2 := by
  obtain ⟨e1, vw', h1, k1⟩ := h
  refine ⟨e1, fs_did_end ⟨h1, hs⟩ hd (k0.trans k1 (fun q hq => ?_)) (fun q hq => (fpAll_iff (by omega)).trans (hi q hq))⟩
  by_cases hlt : q < w.heap.size
  · exact .inl ((hi q hlt).1 hq)
  · exact .inr (by omega)
/-- More blocks are the disk's. -/
theorem DRep0.grow {F : Nat → Prop} (h : DRep0 w base fp bd R S) (k : Keeps F w w') (hF : ∀ q, fp q → ¬ F q) (hp : ∀ q, fp q → fp' q) (hlt : ∀ q, fp' q → base ≤ q ∧ q < w'.heap.size) : DRep0 w' base fp' bd R S :=
  ⟨h.blk.keeps k (hF _ h.fpd), hp _ h.fpd, ⟨ownD_keeps h.parts.kept k (hF _ h.parts.fpk), ownD_keeps h.parts.now k (hF _ h.parts.fpn), h.parts.ne, hp _ h.parts.fpk, hp _ h.parts.fpn, h.parts.files.keeps k (fun f hf => hF _ (h.parts.files.fpb f hf)) (fun f q hf hq => hF _ (h.parts.files.fpv f q hf hq)) hp (fun _ _ => rfl) (fun _ _ => rfl),
    h.parts.waits.keeps (many := S.many) k (fun q hq => hF _ (h.parts.waits.fpw q hq)) (fun q hq _ => hF _ hq) hp h.inv.wlt (fun _ _ => rfl) rfl rfl⟩, h.inv, hlt⟩
theorem DRep0.all (h : DRep0 w base fp bd R S) (hw : base ≤ w.heap.size) (hb : Below w.heap.size w w') : DRep0 w' base (fpAll fp w w') bd R S :=
  h.grow (F := fun _ => False) (Keeps.ofBelow hb) (fun _ _ h => h) (fun _ h => .inl h) (fun q hq => by
    rcases hq with hq | hq
    · exact ⟨(h.lt q hq).1, Nat.lt_of_lt_of_le (h.lt q hq).2 hb.size⟩
    · exact ⟨by omega, hq.2⟩)
theorem DRep.same (h : DRep w base fp bd R m S) {v : Value} : FsPost w base fp bd m S v (.returned v) w := ⟨rfl, fp, R, h, fun _ _ => Iff.rfl, Keeps.refl _ _⟩
set_option maxHeartbeats 1600000 in
theorem fs_sync (h : DRep w base fp bd R m S) (hw0 : base ≤ w.heap.size) {n : Int} (hn : (Lit.int .i64 n).wf = true) : Calls Try.prog 12 #[.pointer (some ⟨bd, 0, none⟩), .int .i64 n] w (FsPost w base fp bd m (S.sync n).1 (.int .i64 (S.sync n).2)) := by
  have hF := fs_find h hn
  by_cases hw : S.why n = 0
  · have hf := h.inv.fid_lt hw
    have hB := h.parts.files.blk _ hf
    have hO := h.parts.files.own _ hf
    have hl := h.small.len (S.fid n)
    have c0 : w.cell? ⟨R.fb (S.fid n), 0, none⟩ = some (R.fv (S.fid n)) := hB.cell 0
    have c1 : w.cell? ⟨R.fb (S.fid n), 1, none⟩ = some (.int .i64 (S.files (S.fid n)).kept) := hB.cell 1
    have f1 := hB.frozen 1
    have e1 : findV R S n = .pointer (some ⟨R.fb (S.fid n), 0, none⟩) := by unfold findV; rw [if_pos hw]
    have e2 : S.sync n = ((S.setF (S.fid n) ⟨(S.files (S.fid n)).b, (S.files (S.fid n)).b.length⟩).did, 0) := by unfold FS.sync; rw [if_pos hw]
    have k1 : Keeps (fun q => q = R.fb (S.fid n)) w (w.setCell ⟨R.fb (S.fid n), 1, none⟩ (.int .i64 (S.files (S.fid n)).b.length)) := Keeps.one w ⟨R.fb (S.fid n), 1, none⟩ _
    have hB1 := hB.set 1 (.int .i64 (S.files (S.fid n)).b.length)
    have hD := h.toDRep0.setF hw0 hf k1 (fun q e => .inl e) (R.fv (S.fid n)) ⟨(S.files (S.fid n)).b, (S.files (S.fid n)).b.length⟩ (Nat.le_refl _) (by simpa using hB1) (own_set hO hB (by decide) 1 _) (fun q hq => .inl hq)
    have hDS := fs_did_end (⟨hD, h.small.setF _ _ hl⟩ : DRep _ base _ bd _ m _) h.fpd (k1.mono (fun q e => by rw [e]; exact h.parts.files.fpb _ hf)) (fun q hq => fpAll_iff hq)
    rw [e2]
    simp only
    rw [e1, hw] at hF
    obtain ⟨av, cv, ev⟩ := own_shape hO
    rw [ev] at c0
    clear h hB hO hw e1 e2 ev hD hB1 k1
    generalize R.fb (S.fid n) = bf at *
    generalize (S.files (S.fid n)).b = fbb at *
    go_enter Try.func12, Try.ntmps12
    go_wp2_with (first
      | (go_at_call 32; refine hF.mono ?_; rintro e w1 ⟨rfl, rfl⟩)
      | (go_at_call 31; refine hDS.mono ?_; rintro e w2 ⟨rfl, hP⟩)
      | go_in)
    go_ret
    exact hP
  · have e1 : findV R S n = .pointer none := by unfold findV; rw [if_neg hw]
    have e2 : S.sync n = (S, S.why n) := by unfold FS.sync; rw [if_neg hw]
    have hy : (S.why n == 0) = false := by simpa using hw
    have FIN := Lib.hid (h.same (v := .int .i64 (S.why n)))
    rw [e1] at hF
    rw [e2]
    simp only
    generalize S.why n = y at *
    clear h hw e1 e2
    go_enter Try.func12, Try.ntmps12
    go_wp2_with (first
      | (go_at_call 32; refine hF.mono ?_; rintro e w1 ⟨rfl, rfl⟩)
      | go_in)
    go_ret
    exact FIN.out
set_option maxHeartbeats 1600000 in
theorem fs_remove (h : DRep w base fp bd R m S) (hm : m < 1000) (hw0 : base ≤ w.heap.size) {n : Int} (hn : (Lit.int .i64 n).wf = true) : Calls Try.prog 20 #[.pointer (some ⟨bd, 0, none⟩), .int .i64 n] w (FsPost w base fp bd (m + 1) (S.remove n).1 (.int .i64 (S.remove n).2)) := by
  have hb : Below w.heap.size w (w.alloc (.cells #[.int .i64 n] 3)) := (Below.refl _ _).alloc (Nat.le_refl _) _
  have h0 := h.toDRep0.all hw0 hb
  have hF := fs_find (⟨h0, h.small⟩ : DRep _ base _ bd R m S) hn
  have hbox := Blk.new w #[.int .i64 n] 3
  have hs0 : (w.alloc (.cells #[.int .i64 n] 3)).heap.size = w.heap.size + 1 := by simp
  have c0 : (w.alloc (.cells #[.int .i64 n] 3)).cell? ⟨w.heap.size, 0, none⟩ = some (.int .i64 n) := hbox.cell 0
  have ka : Keeps fp w (w.alloc (.cells #[.int .i64 n] 3)) := Keeps.ofBelow hb
  have hsm := h.small
  by_cases hw : S.why n = 0
  · have e1 : findV R S n = .pointer (some ⟨R.fb (S.fid n), 0, none⟩) := by unfold findV; rw [if_pos hw]
    have e2 : S.remove n = ((S.change (.rem n)).did, 0) := by unfold FS.remove; rw [if_pos hw]
    rw [e1, hw] at hF
    have hC := (fs_change_rem h0 (by rw [hs0]; omega) (by have := hsm.nowl; omega) (by have := hsm.dirs; have := h.parts.waits.len; omega) hbox hn (.inr ⟨Nat.le_refl _, by omega⟩)).mono (fun e w1 hc => hc.fin (hsm.change (by omega) _) h.fpd ka (by omega) (fun q hq => fpAll_iff hq))
    rw [e2]
    simp only
    clear h h0 hb ka hw e1 e2
    go_enter Try.func20, Try.ntmps20
    go_wp2_with (first
      | (go_at_call 32; refine hF.mono ?_; rintro e w1 ⟨rfl, rfl⟩)
      | (go_at_call 29; refine hC.mono ?_; rintro e w2 ⟨rfl, hDS⟩)
      | (go_at_call 31; refine hDS.mono ?_; rintro e w3 ⟨rfl, hP⟩)
      | go_in)
    go_ret
    exact hP
  · have e1 : findV R S n = .pointer none := by unfold findV; rw [if_neg hw]
    have e2 : S.remove n = (S, S.why n) := by unfold FS.remove; rw [if_neg hw]
    have hy : (S.why n == 0) = false := by simpa using hw
    have FIN := Lib.hid (show FsPost w base fp bd (m + 1) S (.int .i64 (S.why n)) (.returned (.int .i64 (S.why n))) (w.alloc (.cells #[.int .i64 n] 3)) from ⟨rfl, _, R, ⟨h0, hsm.mono (by omega) (by omega)⟩, fun q hq => fpAll_iff hq, ka⟩)
    rw [e1] at hF
    rw [e2]
    simp only
    generalize S.why n = y at *
    clear h hw e1 e2 h0 ka hb
    go_enter Try.func20, Try.ntmps20
    go_wp2_with (first
      | (go_at_call 32; refine hF.mono ?_; rintro e w1 ⟨rfl, rfl⟩)
      | go_in)
    go_ret
    exact FIN.out
end
end Go.Proofs.Ytpckjinlopmbcaa
