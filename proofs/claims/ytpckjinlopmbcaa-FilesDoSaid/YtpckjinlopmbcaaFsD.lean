/-
  A disk as the laws hold it: somewhere behind B.
-/
import Derived.Test.YtpckjinlopmbcaaFsMb
namespace Go.Proofs.Ytpckjinlopmbcaa
set_option linter.unusedVariables false
set_option maxRecDepth 100000
set_option linter.unusedSimpArgs false
open Go.RowKit Go.Maps
/-- A disk whose blocks lie from B on. -/
def Disk (B : Nat) (w : World) (bd m : Nat) (S : FS) : Prop := B ≤ w.heap.size ∧ ∃ fp R, DRep w B fp bd R m S
/-- What a call leaves of it. -/
def DPost (B : Nat) (w : World) (bd m : Nat) (S' : FS) (v : Value) (e : Ending) (w' : World) : Prop := e = .returned v ∧ Disk B w' bd m S' ∧ Below B w w'
section
variable {B bd m : Nat} {S : FS} {w w1 w' : World}
theorem DRep.mono {base : Nat} {fp : Nat → Prop} {R : FRef} (h : DRep w base fp bd R m S) {m' : Nat} (hm : m ≤ m') (ht : m' ≤ 1000) : DRep w base fp bd R m' S := ⟨h.toDRep0, h.small.mono hm ht⟩
theorem Disk.mono (h : Disk B w bd m S) {m' : Nat} (hm : m ≤ m') (ht : m' ≤ 1000) : Disk B w bd m' S := ⟨h.1, let ⟨fp, R, hd⟩ := h.2; ⟨fp, R, hd.mono hm ht⟩⟩
theorem Disk.below (h : Disk B w bd m S) (hb : Below w.heap.size w w') : Disk B w' bd m S := ⟨Nat.le_trans h.1 hb.size, let ⟨fp, R, hd⟩ := h.2; ⟨fp, R, hd.below hb⟩⟩
theorem Disk.drew (h : Disk B w bd m S) : Disk B w.drew bd m S := ⟨h.1, let ⟨fp, R, hd⟩ := h.2; ⟨fp, R, hd.keeps (F := fun _ => False) (Keeps.refl _ _).drew (fun _ _ h => h)⟩⟩
theorem Disk.drewN (h : Disk B w bd m S) (k : Nat) : Disk B (w.drewN k) bd m S := ⟨h.1, let ⟨fp, R, hd⟩ := h.2; ⟨fp, R, hd.keeps (F := fun _ => False) ((Keeps.refl _ _).drewN k) (fun _ _ h => h)⟩⟩
theorem Disk.lt (h : Disk B w bd m S) : B ≤ bd ∧ bd < w.heap.size := by obtain ⟨_, fp, R, hd⟩ := h; exact hd.lt _ hd.fpd
theorem Disk.inv (h : Disk B w bd m S) : FInv S := by obtain ⟨_, fp, R, hd⟩ := h; exact hd.inv
theorem Disk.small (h : Disk B w bd m S) : Small S m := by obtain ⟨_, fp, R, hd⟩ := h; exact hd.small
theorem Disk.used_le (h : Disk B w bd m S) : S.used ≤ 300000000 := by obtain ⟨_, fp, R, hd⟩ := h; exact hd.used_le
theorem FsPost.disk {fp : Nat → Prop} {R : FRef} {S' : FS} {m' : Nat} {v : Value} {e : Ending} (h : DRep w1 B fp bd R m S) (hB : B ≤ w1.heap.size) (hp : FsPost w1 B fp bd m' S' v e w') : DPost B w1 bd m' S' v e w' := by
  obtain ⟨e1, fp', R', h', _, k⟩ := hp
  exact ⟨e1, ⟨Nat.le_trans hB k.size, fp', R', h'⟩, k.below (fun q hq => (h.lt q hq).1) hB⟩
theorem KeepsD.disk {fp : Nat → Prop} {R R' : FRef} {S' : FS} {m' : Nat} {v : Value} {e : Ending} (h : DRep w1 B fp bd R m S) (hB : B ≤ w1.heap.size) (e1 : e = .returned v) (h' : DRep w' B fp bd R' m' S') (k : Keeps (fun q => q = bd) w1 w') : DPost B w1 bd m' S' v e w' :=
  ⟨e1, ⟨Nat.le_trans hB k.size, fp, R', h'⟩, k.below (fun q hq => by rw [hq]; exact (h.lt _ h.fpd).1) hB⟩
def NewD (w : World) (room : Int) (e : Ending) (w' : World) : Prop := ∃ bd, e = .returned (.pointer (some ⟨bd, 0, none⟩)) ∧ Disk w.heap.size w' bd 0 (zeroF room) ∧ Below w.heap.size w w'
theorem d_new (w : World) (room : Int) (hr : (Lit.int .i64 room).wf = true) : Calls Try.prog 10 #[.int .i64 room] w (NewD w room) :=
  (fs_new w room hr).mono fun e w' ⟨bd, fp, R, h1, h2, h3, h4⟩ => ⟨bd, h1, ⟨h4.size, fp, R, h2⟩, h4⟩
theorem d_append (h : Disk B w bd m S) (hw : Below w.heap.size w w1) (hm : m < 1000) {n : Int} {v : Value} {bs : List Int} (hn : (Lit.int .i64 n).wf = true) (hv : Rb w1 v bs) (hbl : bs.length ≤ 300) (hd : 0 < bs.length → ∀ k, v.ownBlock = some k → k < B ∨ w.heap.size ≤ k) :
    Calls Try.prog 11 #[.pointer (some ⟨bd, 0, none⟩), .int .i64 n, v] w1 (DPost B w1 bd (m + 1) (S.append n bs).1 (.int .i64 (S.append n bs).2)) := by
  obtain ⟨hB, fp, R, hD⟩ := h
  have h1 := hD.below hw
  exact (fs_append h1 hm (Nat.le_trans hB hw.size) hn hv hbl (fun h0 k hk hf => by have := hD.lt k hf; rcases hd h0 k hk with h | h <;> omega)).mono (fun e w' hp => hp.disk h1 (Nat.le_trans hB hw.size))
theorem d_rename (h : Disk B w bd m S) (hm : m < 1000) {n to : Int} (hn : (Lit.int .i64 n).wf = true) (ht : (Lit.int .i64 to).wf = true) :
    Calls Try.prog 19 #[.pointer (some ⟨bd, 0, none⟩), .int .i64 n, .int .i64 to] w (DPost B w bd (m + 1) (S.rename n to).1 (.int .i64 (S.rename n to).2)) := by
  obtain ⟨hB, fp, R, hD⟩ := h
  exact (fs_rename hD hm hB hn ht).mono (fun e w' hp => hp.disk hD hB)
theorem d_remove (h : Disk B w bd m S) (hm : m < 1000) {n : Int} (hn : (Lit.int .i64 n).wf = true) :
    Calls Try.prog 20 #[.pointer (some ⟨bd, 0, none⟩), .int .i64 n] w (DPost B w bd (m + 1) (S.remove n).1 (.int .i64 (S.remove n).2)) := by
  obtain ⟨hB, fp, R, hD⟩ := h
  exact (fs_remove hD hm hB hn).mono (fun e w' hp => hp.disk hD hB)
theorem d_sync (h : Disk B w bd m S) (hm : m < 1000) {n : Int} (hn : (Lit.int .i64 n).wf = true) :
    Calls Try.prog 12 #[.pointer (some ⟨bd, 0, none⟩), .int .i64 n] w (DPost B w bd (m + 1) (S.sync n).1 (.int .i64 (S.sync n).2)) := by
  obtain ⟨hB, fp, R, hD⟩ := h
  exact (fs_sync (hD.mono (Nat.le_succ m) hm) hB hn).mono (fun e w' hp => hp.disk hD hB)
theorem d_syncDir (h : Disk B w bd m S) (hm : m < 1000) :
    Calls Try.prog 13 #[.pointer (some ⟨bd, 0, none⟩)] w (DPost B w bd (m + 1) S.syncDir.1 (.int .i64 S.syncDir.2)) := by
  obtain ⟨hB, fp, R, hD⟩ := h
  exact (fs_syncDir hD hm hB).mono (fun e w' hp => hp.disk hD hB)
theorem d_cut (h : Disk B w bd m S) (hm : m < 1000) {n : Int} (hn : -9223372036854775808 ≤ n ∧ n ≤ 9223372036854775807) :
    Calls Try.prog 14 #[.pointer (some ⟨bd, 0, none⟩), .int .i64 n] w (DPost B w bd (m + 1) (S.cut n) (.tuple #[])) := by
  obtain ⟨hB, fp, R, hD⟩ := h
  exact (fs_cut (hD.mono (Nat.le_succ m) hm) hn).mono (fun e w' ⟨e1, h', k⟩ => KeepsD.disk hD hB e1 h' k)
theorem d_crash (h : Disk B w bd m S) (hw : Below w.heap.size w w1) (hm : m < 1000) {names : Int} {v : Value} {keep : List Int} (hv : Rd w1 v keep) (hkl : keep.length ≤ 300) (hd : 0 < keep.length → ∀ k, v.ownBlock = some k → k < B ∨ w.heap.size ≤ k) :
    Calls Try.prog 15 #[.pointer (some ⟨bd, 0, none⟩), .int .i64 names, v] w1 (DPost B w1 bd (m + 1) (S.crash names keep) (.tuple #[])) := by
  obtain ⟨hB, fp, R, hD⟩ := h
  have h1 := hD.below hw
  exact (fs_crash (h1.mono (Nat.le_succ m) hm) (Nat.le_trans hB hw.size) hv hkl (fun h0 k hk hf => by have := hD.lt k hf; rcases hd h0 k hk with h | h <;> omega)).mono (fun e w' hp => hp.disk h1 (Nat.le_trans hB hw.size))
theorem d_read (h : Disk B w bd m S) {n : Int} (hn : (Lit.int .i64 n).wf = true) : Calls Try.prog 16 #[.pointer (some ⟨bd, 0, none⟩), .int .i64 n] w (ReadP w S n) := by
  obtain ⟨hB, fp, R, hD⟩ := h
  exact fs_read hD hn
theorem d_used (h : Disk B w bd m S) : Calls Try.prog 18 #[.pointer (some ⟨bd, 0, none⟩)] w fun e w' => e = .returned (.int .i64 S.used) ∧ Below w.heap.size w w' := by
  obtain ⟨hB, fp, R, hD⟩ := h
  exact fs_used hD
theorem d_names (h : Disk B w bd m S) : Calls Try.prog 21 #[.pointer (some ⟨bd, 0, none⟩)] w (NamesP w S.names) := by
  obtain ⟨hB, fp, R, hD⟩ := h
  exact fs_names hD
theorem d_on (h : Disk B w bd m S) : Calls Try.prog 27 #[.pointer (some ⟨bd, 0, none⟩)] w fun e w' => e = .returned (.bool (!S.out)) ∧ w' = w := by
  obtain ⟨hB, fp, R, hD⟩ := h
  exact fs_on hD
end
end Go.Proofs.Ytpckjinlopmbcaa
