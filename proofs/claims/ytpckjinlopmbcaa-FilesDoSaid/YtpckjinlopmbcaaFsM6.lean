/-
  Package files: Rename, SyncDir, New.
-/
import Derived.Test.YtpckjinlopmbcaaFsM5
namespace Go.Proofs.Ytpckjinlopmbcaa
set_option linter.unusedVariables false
set_option maxRecDepth 100000
set_option linter.unusedSimpArgs false
open Go.RowKit Go.Maps
section
variable {w w' : World} {base bd m : Nat} {fp fp' : Nat → Prop} {R : FRef} {S : FS}
set_option maxHeartbeats 1600000 in
theorem fs_rename (h : DRep w base fp bd R m S) (hm : m < 1000) (hw0 : base ≤ w.heap.size) {n to : Int} (hn : (Lit.int .i64 n).wf = true) (ht : (Lit.int .i64 to).wf = true) : Calls Try.prog 19 #[.pointer (some ⟨bd, 0, none⟩), .int .i64 n, .int .i64 to] w (FsPost w base fp bd (m + 1) (S.rename n to).1 (.int .i64 (S.rename n to).2)) := by
  have hb2 : Below w.heap.size w ((w.alloc (.cells #[.int .i64 n] 3)).alloc (.cells #[.int .i64 to] 3)) := ((Below.refl _ _).alloc (Nat.le_refl _) _).alloc (by simp) _
  have hs2 : ((w.alloc (.cells #[.int .i64 n] 3)).alloc (.cells #[.int .i64 to] 3)).heap.size = w.heap.size + 1 + 1 := by simp
  have bx1 := (Blk.new w #[.int .i64 n] 3).alloc (.cells #[.int .i64 to] 3)
  have bx3 : Blk ((w.alloc (.cells #[.int .i64 n] 3)).alloc (.cells #[.int .i64 to] 3)) (w.heap.size + 1) #[.int .i64 to] 3 := by
    have := Blk.new (w.alloc (.cells #[.int .i64 n] 3)) #[.int .i64 to] 3
    simpa using this
  have h2 := h.toDRep0.all hw0 hb2
  have hF := fs_find (⟨h2, h.small⟩ : DRep _ base _ bd R m S) hn
  have hsm := h.small
  have c1 : ((w.alloc (.cells #[.int .i64 n] 3)).alloc (.cells #[.int .i64 to] 3)).cell? ⟨w.heap.size, 0, none⟩ = some (.int .i64 n) := bx1.cell 0
  have c3 : ((w.alloc (.cells #[.int .i64 n] 3)).alloc (.cells #[.int .i64 to] 3)).cell? ⟨w.heap.size + 1, 0, none⟩ = some (.int .i64 to) := bx3.cell 0
  have hM := fun W => fs_may W to
  have hlen := h.parts.waits.len
  generalize hX : ((w.alloc (.cells #[.int .i64 n] 3)).alloc (.cells #[.int .i64 to] 3)) = X at *
  -- behind find: the variable f
  have key : ∀ (pv : Value), ∃ Y, Y = X.alloc (.cells #[pv] 62) ∧ Below w.heap.size w Y ∧ Y.heap.size = w.heap.size + 1 + 1 + 1 ∧ Blk Y w.heap.size #[.int .i64 n] 3 ∧ Blk Y (w.heap.size + 1) #[.int .i64 to] 3 ∧ Blk Y (w.heap.size + 1 + 1) #[pv] 62 := by
    intro pv
    refine ⟨_, rfl, hb2.alloc (by omega) _, by simp [hs2], bx1.alloc _, bx3.alloc _, ?_⟩
    rw [← hs2]
    exact Blk.new X #[pv] _
  by_cases hw : S.why n = 0
  · have e1 : findV R S n = .pointer (some ⟨R.fb (S.fid n), 0, none⟩) := by unfold findV; rw [if_pos hw]
    rw [e1, hw] at hF
    have hf := h.inv.fid_lt hw
    obtain ⟨Y, rfl, hbY, hsY, y1, y3, y2⟩ := key (.pointer (some ⟨R.fb (S.fid n), 0, none⟩))
    have h3 := h.toDRep0.all hw0 hbY
    have kY := Keeps.ofBelow (F := fp) hbY
    have d1 := y1.cell 0
    have d3 := y3.cell 0
    simp only [List.getElem?_toArray, List.getElem?_cons_zero] at d1 d3
    by_cases hmy : mayN to
    · by_cases hne : n = to
      · subst hne
        have e2 : S.rename n n = (S.did, 0) := by unfold FS.rename; rw [if_neg (fun h => h hw), if_neg (fun h => h hmy), if_neg (fun h => h rfl)]
        have hDS := fs_did_end (⟨h3, hsm.mono (by omega) (by omega)⟩ : DRep _ base _ bd R (m + 1) S) h.fpd kY (fun q hq => fpAll_iff hq)
        rw [e2]
        simp only
        have hM' : ∀ W, Calls Try.prog 28 #[.int .i64 n] W fun e w' => e = .returned (.bool true) ∧ w' = W := fun W => by have := hM W; rw [decide_eq_true hmy] at this; exact this
        clear h h2 h3 hw hf hb2 hbY kY e1 e2 key hM y1 y2 y3
        go_enter Try.func19, Try.ntmps19
        go_wp2_with (first
          | (go_at_call 32; refine hF.mono ?_; rintro e w1 ⟨rfl, rfl⟩)
          | (go_at_call 28; refine (hM' _).mono ?_; rintro e w2 ⟨rfl, rfl⟩)
          | (go_at_call 31; refine hDS.mono ?_; rintro e w3 ⟨rfl, hP⟩)
          | go_in)
        go_ret
        exact hP
      · have e2 : S.rename n to = ((S.change (.ren n (S.fid n) to)).did, 0) := by unfold FS.rename; rw [if_neg (fun h => h hw), if_neg (fun h => h hmy), if_pos hne]
        have hne' : (n == to) = false := by simpa using hne
        have hC := (fs_change_ren h3 (by rw [hsY]; omega) (by have := hsm.nowl; omega) (by have := hsm.dirs; omega) y1 y2 y3 hn ht (.inr ⟨Nat.le_refl _, by omega⟩) (.inr ⟨by omega, by omega⟩) (.inr ⟨by omega, by omega⟩) hf).mono (fun e w1 hc => hc.fin (hsm.change (by omega) _) h.fpd kY (by omega) (fun q hq => fpAll_iff hq))
        rw [e2]
        simp only
        have hM' : ∀ W, Calls Try.prog 28 #[.int .i64 to] W fun e w' => e = .returned (.bool true) ∧ w' = W := fun W => by have := hM W; rw [decide_eq_true hmy] at this; exact this
        clear h h2 h3 hw hf hb2 hbY kY e1 e2 key hM y1 y2 y3
        go_enter Try.func19, Try.ntmps19
        go_wp2_with (first
          | (go_at_call 32; refine hF.mono ?_; rintro e w1 ⟨rfl, rfl⟩)
          | (go_at_call 28; refine (hM' _).mono ?_; rintro e w2 ⟨rfl, rfl⟩)
          | (go_at_call 29; refine hC.mono ?_; rintro e w4 ⟨rfl, hDS⟩)
          | (go_at_call 31; refine hDS.mono ?_; rintro e w3 ⟨rfl, hP⟩)
          | go_in)
        go_ret
        exact hP
    · have e2 : S.rename n to = (S, 1) := by unfold FS.rename; rw [if_neg (fun h => h hw), if_pos hmy]
      have FIN := Lib.hid (show FsPost w base fp bd (m + 1) S (.int .i64 1) (.returned (.int .i64 1)) _ from ⟨rfl, _, R, ⟨h3, hsm.mono (by omega) (by omega)⟩, fun q hq => fpAll_iff hq, kY⟩)
      rw [e2]
      simp only
      have hM' : ∀ W, Calls Try.prog 28 #[.int .i64 to] W fun e w' => e = .returned (.bool false) ∧ w' = W := fun W => by have := hM W; rw [decide_eq_false hmy] at this; exact this
      clear h h2 h3 hw hf hb2 hbY kY e1 e2 key hM y1 y2 y3
      go_enter Try.func19, Try.ntmps19
      go_wp2_with (first
        | (go_at_call 32; refine hF.mono ?_; rintro e w1 ⟨rfl, rfl⟩)
        | (go_at_call 28; refine (hM' _).mono ?_; rintro e w2 ⟨rfl, rfl⟩)
        | go_in)
      go_ret
      exact FIN.out
  · have e1 : findV R S n = .pointer none := by unfold findV; rw [if_neg hw]
    have e2 : S.rename n to = (S, S.why n) := by unfold FS.rename; rw [if_pos hw]
    obtain ⟨Y, rfl, hbY, hsY, y1, y3, y2⟩ := key (.pointer none)
    have h3 := h.toDRep0.all hw0 hbY
    have hy : (S.why n == 0) = false := by simpa using hw
    have FIN := Lib.hid (show FsPost w base fp bd (m + 1) S (.int .i64 (S.why n)) (.returned (.int .i64 (S.why n))) _ from ⟨rfl, _, R, ⟨h3, hsm.mono (by omega) (by omega)⟩, fun q hq => fpAll_iff hq, Keeps.ofBelow hbY⟩)
    rw [e1] at hF
    rw [e2]
    simp only
    generalize S.why n = y at *
    clear h h2 h3 hw hb2 hbY e1 e2 key hM y1 y2 y3
    go_enter Try.func19, Try.ntmps19
    go_wp2_with (first
      | (go_at_call 32; refine hF.mono ?_; rintro e w1 ⟨rfl, rfl⟩)
      | go_in)
    go_ret
    exact FIN.out
set_option maxHeartbeats 1600000 in
theorem fs_syncDir (h : DRep w base fp bd R m S) (hm : m < 1000) (hw0 : base ≤ w.heap.size) : Calls Try.prog 13 #[.pointer (some ⟨bd, 0, none⟩)] w (FsPost w base fp bd (m + 1) S.syncDir.1 (.int .i64 S.syncDir.2)) := by
  have c2 : w.cell? ⟨bd, 2, none⟩ = some (.map (some R.bn)) := h.blk.cell 2
  have c4 : w.cell? ⟨bd, 4, none⟩ = some (.bool S.out) := h.blk.cell 4
  have hsm := h.small
  by_cases ho : S.out = true
  · have e2 : S.syncDir = (S, 11) := by unfold FS.syncDir; rw [if_pos ho]
    have FIN := Lib.hid (show FsPost w base fp bd (m + 1) S (.int .i64 11) (.returned (.int .i64 11)) w from ⟨rfl, _, R, ⟨h.toDRep0, hsm.mono (by omega) (by omega)⟩, fun q hq => Iff.rfl, Keeps.refl _ _⟩)
    rw [e2]
    rw [ho] at c4
    simp only
    clear h e2
    go_enter Try.func13, Try.ntmps13
    go_wp2
    go_ret
    exact FIN.out
  · have ho' : S.out = false := by simpa using ho
    have e2 : S.syncDir = (({ S with kept := S.now, waits := [] } : FS).did, 0) := by unfold FS.syncDir; rw [if_neg ho]
    rw [e2]
    rw [ho'] at c4
    simp only
    have hC := lib_clone h.parts.now
    have FIN : Hid (∀ w1, OwnD w1 R.fb w.heap.size S.now → Below w.heap.size w w1 → w1.cell? ⟨bd, 1, none⟩ = some (.map (some R.bk)) ∧ w1.cell? ⟨bd, 3, none⟩ = some R.vw ∧ w1.frozen? ⟨bd, 1, none⟩ = false ∧ w1.frozen? ⟨bd, 3, none⟩ = false ∧
        Calls Try.prog 31 #[.pointer (some ⟨bd, 0, none⟩)] ((w1.setCell ⟨bd, 1, none⟩ (.map (some w.heap.size))).setCell ⟨bd, 3, none⟩ (.slice none 0 0)) fun e w2 => e = .returned (.int .i64 0) ∧ FsPost w base fp bd (m + 1) ({ S with kept := S.now, waits := [] } : FS).did (.int .i64 0) (.returned (.int .i64 0)) w2) := Lib.hid fun w1 hm1 hb => by
      have h1 := h.below hb
      have hB1 := h1.blk
      refine ⟨hB1.cell 1, hB1.cell 3, hB1.frozen 1, hB1.frozen 3, ?_⟩
      have k2 : Keeps (fun q => q = bd) w1 ((w1.setCell ⟨bd, 1, none⟩ (.map (some w.heap.size))).setCell ⟨bd, 3, none⟩ (.slice none 0 0)) := ((Keeps.refl (fun q => q = bd) w1).set bd 1 (.inl rfl) _).set bd 3 (.inl rfl) _
      have hbd := h.blk.lt
      have hbn := h.parts.now.lt
      have hmlt := hm1.lt
      have hB2 := (hB1.set 1 (.map (some w.heap.size))).set 3 (.slice none 0 0)
      have hP := h1.parts.disk h1.inv hB1 k2
      refine fs_did_end (R1 := { R with bk := w.heap.size, vw := .slice none 0 0, wv := [] }) (fp1 := fpAll fp w ((w1.setCell ⟨bd, 1, none⟩ (.map (some w.heap.size))).setCell ⟨bd, 3, none⟩ (.slice none 0 0))) ⟨⟨by simpa [dskV] using hB2, .inl h.fpd, ⟨ownD_keeps hm1 k2 (by show w.heap.size ≠ bd; omega), hP.now, by show w.heap.size ≠ R.bn; omega, .inr ⟨Nat.le_refl _, by simp; omega⟩, .inl hP.fpn, ?_, ?_⟩, ?_, fun q hq => ?_⟩, ?_⟩ h.fpd ((Keeps.ofBelow hb).trans' (k2.mono (fun q e => by rw [e]; exact h.fpd))) (fun q hq => fpAll_iff hq)
      · exact hP.files.keeps (Keeps.refl (fun _ => False) _) (fun _ _ h => h) (fun _ _ _ _ h => h) (fun q hq => .inl hq) (fun _ _ => rfl) (fun _ _ => rfl)
      · exact ⟨World.ownsRow_nil .., rfl, fun i c hi => by simp at hi, fun k hk => by simp [Value.ownBlock] at hk⟩
      · exact ⟨h.inv.now, h.inv.now, fun x hx => h.inv.lt x (.inl (hx.elim id id)), fun c hc => by simp at hc, h.inv.le, rfl⟩
      · rcases hq with hq | hq
        · have := h.lt q hq
          have := hb.size
          exact ⟨by omega, by simp; omega⟩
        · exact ⟨by omega, hq.2⟩
      · exact ⟨by omega, hsm.room, hsm.left, hsm.leftA, Nat.le_trans hsm.many (by omega), by simp; have := hsm.nowl; omega, Nat.le_trans hsm.nowl (by omega), fun f => Nat.le_trans (hsm.len f) (Nat.mul_le_mul_left _ (by omega))⟩
    have HB := h.blk.lt
    clear h e2 ho ho'
    go_enter Try.func13, Try.ntmps13
    go_wp2_with (first
      | (go_at_call 33; refine hC.mono ?_; rintro e w1 ⟨rfl, hm1, hb1⟩; obtain ⟨g1, g3, p1, p3, hDS⟩ := FIN.out w1 hm1 hb1)
      | (go_at_call 31; refine hDS.mono ?_; rintro e w3 ⟨rfl, hP⟩)
      | go_in)
    go_ret
    exact hP
end
end Go.Proofs.Ytpckjinlopmbcaa
