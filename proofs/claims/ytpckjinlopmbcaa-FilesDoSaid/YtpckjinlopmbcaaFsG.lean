/-
  Calls while the power is out; what laws take of their arguments.
-/
import Derived.Test.YtpckjinlopmbcaaFsF
namespace Go.Proofs.Ytpckjinlopmbcaa
set_option linter.unusedVariables false
set_option maxRecDepth 100000
set_option linter.unusedSimpArgs false
open Go.RowKit
theorem rd_block {w : World} {v : Value} {xs : List Int} (h : Rd w v xs) (h0 : 0 < xs.length) : ∀ k, v.ownBlock = some k → k < w.heap.size := by
  intro k hk
  obtain ⟨a, c, rfl, _, _, h3⟩ := h
  obtain ⟨b, o, rfl, hb, _⟩ := h3 h0
  simp [Value.ownBlock] at hk
  omega
section
variable {S : FS} (h : S.out = true)
include h
theorem out_append (n : Int) (b : List Int) : S.append n b = (S, 11) := by unfold FS.append; rw [if_pos h]
theorem out_why (n : Int) : S.why n = 11 := by unfold FS.why; rw [if_pos h]
theorem out_read (n : Int) : S.read n = ([], 11) := by unfold FS.read; rw [out_why h, if_neg (by decide)]
theorem out_sync (n : Int) : S.sync n = (S, 11) := by unfold FS.sync; rw [out_why h, if_neg (by decide)]
theorem out_rename (n to : Int) : S.rename n to = (S, 11) := by unfold FS.rename; rw [out_why h, if_pos (by decide)]
theorem out_remove (n : Int) : S.remove n = (S, 11) := by unfold FS.remove; rw [out_why h, if_neg (by decide)]
theorem out_syncDir : S.syncDir = (S, 11) := by unfold FS.syncDir; rw [if_pos h]
end
theorem cut_out (S : FS) : (S.cut 0).out = true := by simp [FS.cut]
theorem cut_used (S : FS) (n : Int) : (S.cut n).used = S.used := rfl
theorem crash_out (S : FS) (n : Int) (k : List Int) : (S.crash n k).out = false := rfl
theorem on_syncDir {S : FS} (h : S.out = false) : S.syncDir.2 = 0 := by unfold FS.syncDir; rw [if_neg (by rw [h]; simp)]
theorem a_rb (w : World) : Rb (w.alloc (.cells #[.int .u8 97] 5 (1, 2))) (.slice (some ⟨w.heap.size, 0, none⟩) 1 1) [97] := by
  refine ⟨_, 1, rfl, by simp, by simp, fun _ => ⟨_, 0, rfl, by simp, fun i hi => ?_⟩⟩
  rw [World.cell?_alloc_mark]
  match i, hi with
  | 0, _ => rfl
/-- A call and a disk, somewhere in a law's loop. -/
structure LoopF (w wr : World) (B bd m : Nat) (S : FS) : Prop where
  d : Disk B wr bd m S
  bel : Below w.heap.size w wr
  le : w.heap.size ≤ B
theorem LoopF.post {w wr w' : World} {B bd m m' : Nat} {S S' : FS} (h : LoopF w wr B bd m S) {w1 : World} (h1 : Below wr.heap.size wr w1) (hd : Disk B w' bd m' S') (hb : Below B w1 w') : LoopF w w' B bd m' S' :=
  ⟨hd, (h.bel.trans (h1.mono h.bel.size)).trans (hb.mono h.le), h.le⟩
theorem LoopF.below {w wr w' : World} {B bd m : Nat} {S : FS} (h : LoopF w wr B bd m S) (hb : Below wr.heap.size wr w') : LoopF w w' B bd m S := ⟨h.d.below hb, h.bel.trans (hb.mono h.bel.size), h.le⟩
theorem LoopF.drew {w wr : World} {B bd m : Nat} {S : FS} (h : LoopF w wr B bd m S) : LoopF w wr.drew B bd m S := ⟨h.d.drew, h.bel.drew, h.le⟩
theorem LoopF.mono {w wr : World} {B bd m : Nat} {S : FS} (h : LoopF w wr B bd m S) {m' : Nat} (hm : m ≤ m') (ht : m' ≤ 1000) : LoopF w wr B bd m' S := ⟨h.d.mono hm ht, h.bel, h.le⟩
end Go.Proofs.Ytpckjinlopmbcaa
