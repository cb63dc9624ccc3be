/-
  The document's disk: Remove, Rename, SyncDir, Cut.
-/
import Derived.Test.YtpckjinlopmbcaaFrM2
namespace Go.Proofs.Ytpckjinlopmbcaa
set_option linter.unusedVariables false
set_option maxRecDepth 100000
set_option linter.unusedSimpArgs false
open Go.RowKit Go.Maps
open Go.Proofs.YtpckjinlopmbcaaW.PrintLast
section
variable {w w5 W : World} {fp fp' : Nat → Prop} {R R' : RRef} {S : FS} {base br m : Nat}
theorem r_wait_end (h : RRep w base fp br R S) (hw0 : base ≤ w.heap.size) (hb5 : Below w.heap.size w w5) {c : Chg} (hs : Small (S.change c) m) (ho : S.out = false) {cs : Array Value} {v' : Value} {w6 : World} (hown : Own w6 87 3 v' (S.waits.length + 1) (chC (S.waits ++ [c]))) (hg : (w5.alloc (.cells cs 87)).grownBy w6 R.vW.ownBlock)
    (hat : ∀ k, v'.ownBlock = some k → R.vW.ownBlock = some k ∨ (w5.alloc (.cells cs 87)).heap.size ≤ k) :
    w6.cell? ⟨br, 3, none⟩ = some R.vW ∧ w6.frozen? ⟨br, 3, none⟩ = false ∧ Calls Try.prog 56 #[.pointer (some ⟨br, 0, none⟩)] (w6.setCell ⟨br, 3, none⟩ v') fun e w2 => e = .returned (.tuple #[]) ∧ ∀ v, RPost w base fp br (S.change c).did v (.returned v) w2 := by
  have h5 := h.below hb5
  have hz : w5.heap.size ≤ (w5.alloc (.cells cs 87)).heap.size := by simp
  have kg : Keeps (fun q => R.vW.ownBlock = some q) w5 w6 := ((Keeps.refl _ w5).alloc _).grown hg (fun k e => .inl e)
  have hB6 : Blk w6 br (rdV R S) 55 := h5.blk.keeps kg (fun e => own_blk_ne h5.parts.waits h5.blk (by decide) e)
  have k1 := Keeps.one w6 ⟨br, 3, none⟩ v'
  have k : Keeps (fun q => R.vW.ownBlock = some q ∨ q = br) w5 (w6.setCell ⟨br, 3, none⟩ v') := (kg.mono (fun q e => .inl e)).trans' (k1.mono (fun q e => .inr e))
  have hs5 := hb5.size
  have hD := h5.wait (by omega) c (vW' := v') k (by simpa [rdV, FS.change] using hB6.set 3 v') (own_set hown hB6 (by decide) 3 v') (fun q hq => (hat q hq).imp id (fun h => by omega))
  refine ⟨hB6.cell 3, hB6.frozen 3, r_did_end (w := w) hD hs ho h.fpd ((Keeps.ofBelow hb5).trans' (k.mono (fun q e => ?_))) (fun k hk => fpAll_iff (by omega))⟩
  rcases e with e | e
  · exact h5.parts.fpW q e
  · rw [e]; exact h.fpd
set_option maxHeartbeats 1600000 in
theorem r_remove (h : RRep w base fp br R S) (hI : DocI S) (hs : Small S m) (hm : m < 1000) (hw0 : base ≤ w.heap.size) (n : Int) : Calls Try.prog 45 #[.pointer (some ⟨br, 0, none⟩), .int .i64 n] w (RPost w base fp br (S.remove n).1 (.int .i64 (S.remove n).2)) := by
  have c4 : w.cell? ⟨br, 4, none⟩ = some (.bool S.out) := h.blk.cell 4
  have HH := Lib.hid h
  have HF := Lib.hid (r_find h hI n)
  have hwl := hI.wl
  cases ho : S.out with
  | true =>
    rw [ho] at c4
    rw [out_remove ho]
    clear h hI
    go_enter Try.func45, Try.ntmps45
    go_wp2
    go_ret
    exact HH.out.still (Below.refl _ _)
  | false =>
    rw [ho] at c4
    cases ha : atD S.now n with
    | none =>
      have e2 : S.remove n = (S, 8) := by unfold FS.remove; rw [why_none ho ha, if_neg (by decide)]
      rw [e2]
      rw [findR_none ha] at HF
      clear h hI e2
      go_enter Try.func45, Try.ntmps45
      go_wp2_with (first | (go_at_call 55; refine HF.out.mono ?_; rintro e w5 ⟨rfl, hb5⟩) | go_in)
      go_ret
      exact HH.out.still hb5
    | some f =>
      have e2 : S.remove n = ((S.change (.rem n)).did, 0) := by unfold FS.remove; rw [if_pos (why_some ho ha)]
      rw [e2]
      rw [findR_some ha] at HF
      have HS := Lib.hid (hs.change (by omega) (.rem n))
      have HO := Lib.hid ho
      have d0 : decide ((f : Int) < 0) = false := decide_eq_false (by omega)
      obtain ⟨aw, cw, ew⟩ := own_shape h.parts.waits
      clear h hI e2 ha hs ho
      go_enter Try.func45, Try.ntmps45
      go_wp2_with (first
        | (go_at_call 55; refine HF.out.mono ?_; rintro e w5 ⟨rfl, hb5⟩; have h5 := HH.out.below hb5; have c3 : w5.cell? ⟨br, 3, none⟩ = some R.vW := h5.blk.cell 3; rw [ew] at c3; have HW5 := Lib.hid h5.parts.waits; rw [ew] at HW5; have hX := Blk.new w5 #[.int .i64 n, .int .i64 (-1), .int .i64 (-1)] 87; clear h5)
        | (at_builtin; refine wpList_capp rfl _ _ rfl (.slice aw S.waits.length cw) S.waits rfl (HW5.out.alloc _) (.rem n) w5.heap.size 1 rfl hX rfl (by omega) ?_; intro v6 w6 hO6 hg6 hat6; rw [← ew] at hg6 hat6; obtain ⟨k3, k3f, hDS⟩ := r_wait_end HH.out hw0 hb5 HS.out HO.out hO6 hg6 hat6; rw [ew] at k3; obtain ⟨a6, c6, e6⟩ := own_shape hO6; subst e6; have HDS := Lib.hid hDS; clear hO6 hg6 hat6 hDS hX)
        | (go_at_call 56; refine HDS.out.mono ?_; rintro e w7 ⟨rfl, hP⟩)
        | go_in)
      go_ret
      exact hP _
set_option maxHeartbeats 1600000 in
theorem r_rename (h : RRep w base fp br R S) (hI : DocI S) (hs : Small S m) (hm : m < 1000) (hw0 : base ≤ w.heap.size) (n to : Int) : Calls Try.prog 44 #[.pointer (some ⟨br, 0, none⟩), .int .i64 n, .int .i64 to] w (RPost w base fp br (S.rename n to).1 (.int .i64 (S.rename n to).2)) := by
  have c4 : w.cell? ⟨br, 4, none⟩ = some (.bool S.out) := h.blk.cell 4
  have HH := Lib.hid h
  have HF := Lib.hid (r_find h hI n)
  have hwl := hI.wl
  cases ho : S.out with
  | true =>
    rw [ho] at c4
    rw [out_rename ho]
    clear h hI
    go_enter Try.func44, Try.ntmps44
    go_wp2
    go_ret
    exact HH.out.still (Below.refl _ _)
  | false =>
    rw [ho] at c4
    cases ha : atD S.now n with
    | none =>
      have e2 : S.rename n to = (S, 8) := by unfold FS.rename; rw [why_none ho ha, if_pos (by decide)]
      rw [e2]
      rw [findR_none ha] at HF
      clear h hI e2
      go_enter Try.func44, Try.ntmps44
      go_wp2_with (first | (go_at_call 55; refine HF.out.mono ?_; rintro e w5 ⟨rfl, hb5⟩) | go_in)
      go_ret
      exact HH.out.still hb5
    | some f =>
      rw [findR_some ha] at HF
      have hw := why_some ho ha
      have d0 : decide ((f : Int) < 0) = false := decide_eq_false (by omega)
      have hfid : S.fid n = f := by unfold FS.fid; rw [ha]; rfl
      by_cases hmy : mayN to
      · have hM' : ∀ W, Calls Try.prog 54 #[.int .i64 to] W fun e w' => e = .returned (.bool true) ∧ w' = W := fun W => by have := r_may W to; rw [decide_eq_true hmy] at this; exact this
        by_cases hne : n = to
        · have e2 : S.rename n to = (S.did, 0) := by unfold FS.rename; rw [if_neg (fun h => h hw), if_neg (fun h => h hmy), if_neg (fun h => h hne)]
          rw [e2]
          have e1 : (n != to) = false := by simpa using hne
          have HS := Lib.hid hs
          have HO := Lib.hid ho
          clear h hI e2 ha hs ho hw hmy hne
          go_enter Try.func44, Try.ntmps44
          go_wp2_with (first
            | (go_at_call 55; refine HF.out.mono ?_; rintro e w5 ⟨rfl, hb5⟩; have HDS := Lib.hid (r_did_end (w := w) (HH.out.below hb5) HS.out HO.out HH.out.fpd (Keeps.ofBelow hb5) (fun _ _ => Iff.rfl)))
            | (go_at_call 54; refine (hM' _).mono ?_; rintro e w6 ⟨rfl, rfl⟩)
            | (go_at_call 56; refine HDS.out.mono ?_; rintro e w7 ⟨rfl, hP⟩)
            | go_in)
          go_ret
          exact hP _
        · have e2 : S.rename n to = ((S.change (.ren n f to)).did, 0) := by unfold FS.rename; rw [if_neg (fun h => h hw), if_neg (fun h => h hmy), if_pos hne, hfid]
          rw [e2]
          have e1 : (n != to) = true := by simpa using hne
          have HS := Lib.hid (hs.change (by omega) (.ren n f to))
          have HO := Lib.hid ho
          obtain ⟨aw, cw, ew⟩ := own_shape h.parts.waits
          clear h hI e2 ha hs ho hw hmy hne hfid
          go_enter Try.func44, Try.ntmps44
          go_wp2_with (first
            | (go_at_call 55; refine HF.out.mono ?_; rintro e w5 ⟨rfl, hb5⟩; have h5 := HH.out.below hb5; have c3 : w5.cell? ⟨br, 3, none⟩ = some R.vW := h5.blk.cell 3; rw [ew] at c3; have HW5 := Lib.hid h5.parts.waits; rw [ew] at HW5; have hX := Blk.new w5 #[.int .i64 to, .int .i64 f, .int .i64 n] 87; clear h5)
            | (go_at_call 54; refine (hM' _).mono ?_; rintro e w6 ⟨rfl, rfl⟩)
            | (at_builtin; refine wpList_capp rfl _ _ rfl (.slice aw S.waits.length cw) S.waits rfl (HW5.out.alloc _) (.ren n f to) _ 1 rfl hX rfl (by omega) ?_; intro v6 w6 hO6 hg6 hat6; rw [← ew] at hg6 hat6; obtain ⟨k3, k3f, hDS⟩ := r_wait_end HH.out hw0 hb5 HS.out HO.out hO6 hg6 hat6; rw [ew] at k3; obtain ⟨a6, c6, e6⟩ := own_shape hO6; subst e6; have HDS := Lib.hid hDS; clear hO6 hg6 hat6 hDS hX)
            | (go_at_call 56; refine HDS.out.mono ?_; rintro e w7 ⟨rfl, hP⟩)
            | go_in)
          go_ret
          exact hP _
      · have hM' : ∀ W, Calls Try.prog 54 #[.int .i64 to] W fun e w' => e = .returned (.bool false) ∧ w' = W := fun W => by have := r_may W to; rw [decide_eq_false hmy] at this; exact this
        have e2 : S.rename n to = (S, 1) := by unfold FS.rename; rw [if_neg (fun h => h hw), if_pos hmy]
        rw [e2]
        clear h hI e2 ha ho hw hmy
        go_enter Try.func44, Try.ntmps44
        go_wp2_with (first
          | (go_at_call 55; refine HF.out.mono ?_; rintro e w5 ⟨rfl, hb5⟩)
          | (go_at_call 54; refine (hM' _).mono ?_; rintro e w6 ⟨rfl, rfl⟩)
          | go_in)
        go_ret
        exact HH.out.still hb5
set_option maxHeartbeats 1600000 in
theorem r_syncDir (h : RRep w base fp br R S) (hI : DocI S) (hs : Small S m) (hm : m < 1000) (hw0 : base ≤ w.heap.size) : Calls Try.prog 46 #[.pointer (some ⟨br, 0, none⟩)] w (RPost w base fp br S.syncDir.1 (.int .i64 S.syncDir.2)) := by
  have c4 : w.cell? ⟨br, 4, none⟩ = some (.bool S.out) := h.blk.cell 4
  have HH := Lib.hid h
  have HD := Lib.hid (r_Dir h hI)
  cases ho : S.out with
  | true =>
    rw [ho] at c4
    rw [out_syncDir ho]
    clear h hI
    go_enter Try.func46, Try.ntmps46
    go_wp2
    go_ret
    exact HH.out.still (Below.refl _ _)
  | false =>
    rw [ho] at c4
    have e2 : S.syncDir = (({ S with kept := S.now, waits := [] } : FS).did, 0) := by unfold FS.syncDir; rw [if_neg (by rw [ho]; simp)]
    rw [e2]
    have hsm : Small ({ S with kept := S.now, waits := [] } : FS) m := ⟨hs.top, hs.room, hs.left, hs.leftA, hs.many, by simp; exact hs.nowl, hs.nowl, hs.len⟩
    have FIN := Lib.hid (show ∀ v5 w5, RdN w5 v5 S.now → (0 < S.now.length → ∀ k, v5.ownBlock = some k → fp k ∨ w.heap.size ≤ k) → Below w.heap.size w w5 → w5.cell? ⟨br, 2, none⟩ = some R.vK ∧ w5.frozen? ⟨br, 2, none⟩ = false ∧ w5.cell? ⟨br, 3, none⟩ = some R.vW ∧ w5.frozen? ⟨br, 3, none⟩ = false ∧
        Calls Try.prog 56 #[.pointer (some ⟨br, 0, none⟩)] ((w5.setCell ⟨br, 2, none⟩ v5).setCell ⟨br, 3, none⟩ (.slice none 0 0)) fun e w2 => e = .returned (.tuple #[]) ∧ ∀ v, RPost w base fp br ({ S with kept := S.now, waits := [] } : FS).did v (.returned v) w2 from fun v5 w5 h1 h2 h3 => by
      have h5 := h.below h3
      have k : Keeps (fun q => q = br) w5 ((w5.setCell ⟨br, 2, none⟩ v5).setCell ⟨br, 3, none⟩ (.slice none 0 0)) := ((Keeps.refl (fun q => q = br) w5).set br 2 (.inl rfl) _).set br 3 (.inl rfl) _
      have hB := (h5.blk.set 2 v5).set 3 (.slice none 0 0)
      have hN := h.names (S' := { S with kept := S.now, waits := [] }) hw0 h3 k rfl rfl rfl (by simpa [rdV] using hB) h1 h2
      exact ⟨h5.blk.cell 2, h5.blk.frozen 2, h5.blk.cell 3, h5.blk.frozen 3, r_did_end (w := w) hN hsm ho h.fpd ((Keeps.ofBelow h3).trans' (k.mono (fun q e => by rw [e]; exact h.fpd))) (fun k hk => fpAll_iff hk)⟩)
    obtain ⟨aw, cw, ew⟩ := own_shape h.parts.waits
    obtain ⟨ak, ck, ek, -⟩ := id h.parts.kept
    rw [ew, ek] at FIN
    clear h hI e2 hs ho hsm ew ek
    go_enter Try.func46, Try.ntmps46
    go_wp2_with (first
      | (go_at_call 25; refine HD.out.mono ?_; rintro e w5 ⟨v5, rfl, h1, h2, h3⟩; obtain ⟨k2, k2f, k3, k3f, hDS⟩ := FIN.out v5 w5 h1 h2 h3; obtain ⟨a5, c5, e5, -⟩ := id h1; subst e5; have HDS := Lib.hid hDS; clear h1 h2 h3 hDS)
      | (go_at_call 56; refine HDS.out.mono ?_; rintro e w7 ⟨rfl, hP⟩)
      | go_in)
    go_ret
    exact hP _
set_option maxHeartbeats 1600000 in
theorem r_cut (h : RRep w base fp br R S) (n : Int) : Calls Try.prog 47 #[.pointer (some ⟨br, 0, none⟩), .int .i64 n] w (RPost w base fp br (S.cut n) (.tuple #[])) := by
  have c4 : w.cell? ⟨br, 4, none⟩ = some (.bool S.out) := h.blk.cell 4
  have c5 : w.cell? ⟨br, 5, none⟩ = some (.bool S.armed) := h.blk.cell 5
  have c6 : w.cell? ⟨br, 6, none⟩ = some (.int .i64 S.left) := h.blk.cell 6
  have f4 := h.blk.frozen 4
  have f5 := h.blk.frozen 5
  have f6 := h.blk.frozen 6
  have gen : ∀ w', Keeps (fun q => q = br) w w' → Blk w' br (rdV R (S.cut n)) 55 → RPost w base fp br (S.cut n) (.tuple #[]) (.returned (.tuple #[])) w' := fun w' k hB => by
    have hP := h.parts.disk h.blk k (fp' := fp) (fun _ h => h)
    exact ⟨rfl, fp, R, ⟨hB, h.fpd, ⟨hP.files, hP.fown, hP.fpF, hP.kept, hP.fpK, hP.waits, hP.fpW⟩, fun q hq => ⟨(h.lt q hq).1, Nat.lt_of_lt_of_le (h.lt q hq).2 k.size⟩⟩, fun _ _ => Iff.rfl, k.mono (fun q e => by rw [e]; exact h.fpd)⟩
  by_cases hn : n < 1
  · have d1 : decide (n < 1) = true := decide_eq_true hn
    have d2 : decide (1 ≤ n) = false := decide_eq_false (by omega)
    have hc : S.cut n = { S with armed := false, left := n, out := true } := by unfold FS.cut; rw [d1, d2, Bool.or_true]
    rw [hc] at gen ⊢
    have hb := ((h.blk.set 5 (.bool false)).set 6 (.int .i64 n)).set 4 (.bool true)
    have FIN := Lib.hid (gen (((w.setCell ⟨br, 5, none⟩ (.bool false)).setCell ⟨br, 6, none⟩ (.int .i64 n)).setCell ⟨br, 4, none⟩ (.bool true)) ((((Keeps.refl (fun q => q = br) w).set br 5 (.inl rfl) _).set br 6 (.inl rfl) _).set br 4 (.inl rfl) _) (by simpa [rdV] using hb))
    clear h gen hb hc
    go_enter Try.func47, Try.ntmps47
    go_wp2
    go_end0
    exact FIN.out
  · have d1 : decide (n < 1) = false := decide_eq_false hn
    have d2 : decide (1 ≤ n) = true := decide_eq_true (by omega)
    have hc : S.cut n = { S with armed := true, left := n, out := S.out } := by unfold FS.cut; rw [d1, d2, Bool.or_false]
    rw [hc] at gen ⊢
    have hb := (h.blk.set 5 (.bool true)).set 6 (.int .i64 n)
    have FIN := Lib.hid (gen ((w.setCell ⟨br, 5, none⟩ (.bool true)).setCell ⟨br, 6, none⟩ (.int .i64 n)) (((Keeps.refl (fun q => q = br) w).set br 5 (.inl rfl) _).set br 6 (.inl rfl) _) (by simpa [rdV] using hb))
    clear h gen hb hc
    go_enter Try.func47, Try.ntmps47
    go_wp2
    go_end0
    exact FIN.out
end
end Go.Proofs.Ytpckjinlopmbcaa
