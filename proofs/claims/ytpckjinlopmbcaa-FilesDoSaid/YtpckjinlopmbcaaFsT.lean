/-
  A disk and the document's, side by side.
-/
import Derived.Test.YtpckjinlopmbcaaFrM5
import Derived.DataShut
namespace Go.Proofs.Ytpckjinlopmbcaa
set_option linter.unusedVariables false
set_option maxRecDepth 100000
set_option linter.unusedSimpArgs false
open Go.RowKit Go.Maps
/-- All names are ones that may be. -/
structure MayI (S : FS) : Prop where
  may : ∀ c ∈ S.waits, ChgMay c
  kept : ∀ x ∈ S.kept, mayN x.1
section
variable {S : FS}
theorem may_app {l : Dir} {c : Chg} (hl : ∀ x ∈ l, mayN x.1) (hc : ChgMay c) : ∀ x ∈ c.app l, mayN x.1 := by
  intro x hx
  cases c with
  | put n f =>
    rcases mem_putD.1 hx with rfl | hx
    · exact hc
    · exact hl x hx.1
  | ren n f to =>
    rcases mem_putD.1 hx with rfl | hx
    · exact hc.2
    · exact hl x (mem_rmD.1 hx.1).1
  | rem n => exact hl x (mem_rmD.1 hx).1
theorem MayI.upto (h : MayI S) (k : Nat) : ∀ x ∈ S.upto k, mayN x.1 := by
  induction k with
  | zero => exact h.kept
  | succ k ih =>
    rcases Nat.lt_or_ge k S.waits.length with hk | hk
    · rw [upto_succ S (List.getElem?_eq_getElem hk)]
      exact may_app ih (h.may _ (List.getElem_mem hk))
    · have e : S.upto (k + 1) = S.upto k := by unfold FS.upto; rw [List.take_of_length_le (by omega), List.take_of_length_le hk]
      rw [e]; exact ih
theorem MayI.now (h : MayI S) (I : FInv S) : ∀ x ∈ S.now, mayN x.1 := by rw [← upto_all I]; exact h.upto _
theorem MayI.did (h : MayI S) : MayI S.did := by unfold FS.did; split <;> exact ⟨h.may, h.kept⟩
theorem MayI.change (h : MayI S) {c : Chg} (hc : ChgMay c) : MayI (S.change c) := ⟨fun d hd => by
  rcases List.mem_append.1 hd with hd | hd
  · exact h.may d hd
  · rw [List.mem_singleton.1 hd]; exact hc, h.kept⟩
theorem may_append (h : MayI S) (n : Int) (b : List Int) : MayI (S.append n b).1 := by
  unfold FS.append
  split
  · exact h
  · split
    · exact h
    · rename_i hm
      split
      · exact h
      · unfold FS.add FS.mkF
        have hm : mayN n := Decidable.not_not.1 hm
        split
        · exact MayI.did (S := FS.setF _ _ _) ⟨(MayI.change (S := { S with files := updF S.files S.many ⟨[], 0⟩, many := S.many + 1 }) ⟨h.may, h.kept⟩ (c := .put n S.many) hm).may, h.kept⟩
        · exact MayI.did (S := FS.setF _ _ _) ⟨h.may, h.kept⟩
theorem may_sync (h : MayI S) (n : Int) : MayI (S.sync n).1 := by
  unfold FS.sync
  split
  · exact MayI.did (S := FS.setF _ _ _) ⟨h.may, h.kept⟩
  · exact h
theorem may_rename (h : MayI S) (I : FInv S) (n to : Int) : MayI (S.rename n to).1 := by
  unfold FS.rename
  split
  · exact h
  · rename_i hw
    split
    · exact h
    · rename_i hm
      split
      · have hw : S.why n = 0 := Decidable.not_not.1 hw
        have hn : mayN n := by
          unfold FS.why at hw
          cases ha : atD S.now n with
          | none => rw [ha] at hw; simp at hw; split at hw <;> omega
          | some f => exact h.now I _ (atD_some ha)
        exact (h.change (c := .ren n (S.fid n) to) ⟨hn, Decidable.not_not.1 hm⟩).did
      · exact h.did
theorem may_remove (h : MayI S) (n : Int) : MayI (S.remove n).1 := by
  unfold FS.remove
  split
  · exact (h.change (c := .rem n) trivial).did
  · exact h
theorem may_syncDir (h : MayI S) (I : FInv S) : MayI S.syncDir.1 := by
  unfold FS.syncDir
  split
  · exact h
  · exact MayI.did ⟨fun c hc => by simp at hc, h.now I⟩
theorem may_crash (h : MayI S) (n : Int) (k : List Int) : MayI (S.crash n k) := ⟨fun c hc => by simp [FS.crash] at hc, h.upto _⟩
theorem doc_of {m : Nat} (I : FInv S) (h : Small S m) (hM : MayI S) : DocI S := ⟨I, hM.may, hM.kept, Nat.le_trans h.dirs h.top, Nat.le_trans h.many h.top, fun f => by have := h.len f; have := h.top; omega⟩
end
/-- Both, and blocks that are neither's. -/
def Two (Z : Nat → Prop) (W : World) (B bd br m : Nat) (Sd Sr : FS) : Prop :=
  B ≤ W.heap.size ∧ (∀ q, Z q → q < W.heap.size) ∧ ∃ fp R fp2 RR, DRep W B fp bd R m Sd ∧ RRep W B fp2 br RR Sr ∧ (∀ q, fp q → ¬ fp2 q) ∧ ∀ q, Z q → ¬ fp q ∧ ¬ fp2 q
/-- What a call leaves of them. -/
def TPost (Z : Nat → Prop) (W : World) (B bd br m : Nat) (Sd Sr : FS) (v : Value) (e : Ending) (w' : World) : Prop :=
  e = .returned v ∧ Two Z w' B bd br m Sd Sr ∧ Keeps (fun q => ¬ Z q ∧ B ≤ q) W w'
section
variable {Z Z' : Nat → Prop} {W w' W1 : World} {B bd br m : Nat} {Sd Sr S : FS}
theorem Two.keeps {F : Nat → Prop} (h : Two Z W B bd br m Sd Sr) (k : Keeps F W w') (hF : ∀ q, F q → Z q ∨ W.heap.size ≤ q) : Two Z w' B bd br m Sd Sr := by
  obtain ⟨hB, hZ, fp, R, fp2, RR, hd, hr, hdj, hz⟩ := h
  have n1 : ∀ q, fp q → ¬ F q := fun q hq hf => by
    rcases hF q hf with e | e
    · exact (hz q e).1 hq
    · have := (hd.lt q hq).2; omega
  have n2 : ∀ q, fp2 q → ¬ F q := fun q hq hf => by
    rcases hF q hf with e | e
    · exact (hz q e).2 hq
    · have := (hr.lt q hq).2; omega
  exact ⟨Nat.le_trans hB k.size, fun q hq => Nat.lt_of_lt_of_le (hZ q hq) k.size, fp, R, fp2, RR, hd.keeps k n1, hr.keeps k n2, hdj, hz⟩
theorem Two.below (h : Two Z W B bd br m Sd Sr) (hb : Below W.heap.size W w') : Two (fun q => Z q ∨ (W.heap.size ≤ q ∧ q < w'.heap.size)) w' B bd br m Sd Sr := by
  obtain ⟨hB, hZ, fp, R, fp2, RR, hd, hr, hdj, hz⟩ := h
  refine ⟨Nat.le_trans hB hb.size, fun q hq => ?_, fp, R, fp2, RR, hd.below hb, hr.below hb, hdj, fun q hq => ?_⟩
  · rcases hq with hq | hq
    · exact Nat.lt_of_lt_of_le (hZ q hq) hb.size
    · exact hq.2
  · rcases hq with hq | hq
    · exact hz q hq
    · exact ⟨fun hf => by have := (hd.lt q hf).2; omega, fun hf => by have := (hr.lt q hf).2; omega⟩
theorem Two.less (h : Two Z W B bd br m Sd Sr) (hs : ∀ q, Z' q → Z q) : Two Z' W B bd br m Sd Sr := by
  obtain ⟨hB, hZ, fp, R, fp2, RR, hd, hr, hdj, hz⟩ := h
  exact ⟨hB, fun q hq => hZ q (hs q hq), fp, R, fp2, RR, hd, hr, hdj, fun q hq => hz q (hs q hq)⟩
theorem Two.disk (h : Two Z W B bd br m Sd Sr) : Disk B W bd m Sd := by
  obtain ⟨hB, hZ, fp, R, fp2, RR, hd, hr, hdj, hz⟩ := h
  exact ⟨hB, fp, R, hd⟩
theorem Two.mono (h : Two Z W B bd br m Sd Sr) {m' : Nat} (hm : m ≤ m') (ht : m' ≤ 1000) : Two Z W B bd br m' Sd Sr := by
  obtain ⟨hB, hZ, fp, R, fp2, RR, hd, hr, hdj, hz⟩ := h
  exact ⟨hB, hZ, fp, R, fp2, RR, hd.mono hm ht, hr, hdj, hz⟩
/-- Behind a call of the disk. -/
theorem two_d {fp fp2 : Nat → Prop} {R : FRef} {RR : RRef} {m' : Nat} {S' : FS} {v : Value} {e : Ending} (hB : B ≤ W.heap.size) (hZ : ∀ q, Z q → q < W.heap.size) (hd : DRep W B fp bd R m Sd) (hr : RRep W B fp2 br RR Sr) (hdj : ∀ q, fp q → ¬ fp2 q) (hz : ∀ q, Z q → ¬ fp q ∧ ¬ fp2 q) (hp : FsPost W B fp bd m' S' v e w') : TPost Z W B bd br m' S' Sr v e w' := by
  obtain ⟨e1, fp', R', hd', hi, k⟩ := hp
  refine ⟨e1, ⟨Nat.le_trans hB k.size, fun q hq => Nat.lt_of_lt_of_le (hZ q hq) k.size, fp', R', fp2, RR, hd', hr.keeps k (fun q hq hf => hdj q hf hq), fun q hq hq2 => ?_, fun q hq => ⟨fun hf => ?_, (hz q hq).2⟩⟩, k.mono (fun q hq => ⟨fun hzq => (hz q hzq).1 hq, (hd.lt q hq).1⟩)⟩
  · exact hdj q ((hi q (hr.lt q hq2).2).1 hq) hq2
  · exact (hz q hq).1 ((hi q (hZ q hq)).1 hf)
/-- Behind a call of the document's. -/
theorem two_r {fp fp2 : Nat → Prop} {R : FRef} {RR : RRef} {S' : FS} {v : Value} {e : Ending} (hB : B ≤ W.heap.size) (hZ : ∀ q, Z q → q < W.heap.size) (hd : DRep W B fp bd R m Sd) (hr : RRep W B fp2 br RR Sr) (hdj : ∀ q, fp q → ¬ fp2 q) (hz : ∀ q, Z q → ¬ fp q ∧ ¬ fp2 q) (hp : RPost W B fp2 br S' v e w') : TPost Z W B bd br m Sd S' v e w' := by
  obtain ⟨e1, fp', R', hr', hi, k⟩ := hp
  refine ⟨e1, ⟨Nat.le_trans hB k.size, fun q hq => Nat.lt_of_lt_of_le (hZ q hq) k.size, fp, R, fp', R', hd.keeps k (fun q hq hf => hdj q hq hf), hr', fun q hq hq2 => ?_, fun q hq => ⟨(hz q hq).1, fun hf => ?_⟩⟩, k.mono (fun q hq => ⟨fun hzq => (hz q hzq).2 hq, (hr.lt q hq).1⟩)⟩
  · exact hdj q hq ((hi q (hd.lt q hq).2).1 hq2)
  · exact (hz q hq).2 ((hi q (hZ q hq)).1 hf)
theorem keepsD {fp : Nat → Prop} {R R' : FRef} {m' : Nat} {S' : FS} {v : Value} {e : Ending} (hd : DRep W B fp bd R m Sd) (e1 : e = .returned v) (hd' : DRep w' B fp bd R' m' S') (k : Keeps (fun q => q = bd) W w') : FsPost W B fp bd m' S' v e w' := ⟨e1, fp, R', hd', fun _ _ => Iff.rfl, k.mono (fun q e => by rw [e]; exact hd.fpd)⟩
theorem td_sync (h : Two Z W B bd br m S S) (hm : m < 1000) {n : Int} (hn : (Lit.int .i64 n).wf = true) : Calls Try.prog 12 #[.pointer (some ⟨bd, 0, none⟩), .int .i64 n] W (TPost Z W B bd br (m + 1) (S.sync n).1 S (.int .i64 (S.sync n).2)) := by
  obtain ⟨hB, hZ, fp, R, fp2, RR, hd, hr, hdj, hz⟩ := h
  exact (fs_sync (hd.mono (Nat.le_succ m) hm) hB hn).mono (fun e w' hp => two_d hB hZ hd hr hdj hz hp)
theorem tr_sync (h : Two Z W B bd br (m + 1) Sd S) (hI : DocI S) (hs : Small S m) (hm : m < 1000) {n : Int} (hn : (Lit.int .i64 n).wf = true) : Calls Try.prog 43 #[.pointer (some ⟨br, 0, none⟩), .int .i64 n] W (TPost Z W B bd br (m + 1) Sd (S.sync n).1 (.int .i64 (S.sync n).2)) := by
  obtain ⟨hB, hZ, fp, R, fp2, RR, hd, hr, hdj, hz⟩ := h
  exact (r_sync hr hI hs hB n).mono (fun e w' hp => two_r hB hZ hd hr hdj hz hp)
theorem td_rename (h : Two Z W B bd br m S S) (hm : m < 1000) {n to : Int} (hn : (Lit.int .i64 n).wf = true) (ht : (Lit.int .i64 to).wf = true) : Calls Try.prog 19 #[.pointer (some ⟨bd, 0, none⟩), .int .i64 n, .int .i64 to] W (TPost Z W B bd br (m + 1) (S.rename n to).1 S (.int .i64 (S.rename n to).2)) := by
  obtain ⟨hB, hZ, fp, R, fp2, RR, hd, hr, hdj, hz⟩ := h
  exact (fs_rename hd hm hB hn ht).mono (fun e w' hp => two_d hB hZ hd hr hdj hz hp)
theorem tr_rename (h : Two Z W B bd br (m + 1) Sd S) (hI : DocI S) (hs : Small S m) (hm : m < 1000) {n to : Int} (hn : (Lit.int .i64 n).wf = true) (ht : (Lit.int .i64 to).wf = true) : Calls Try.prog 44 #[.pointer (some ⟨br, 0, none⟩), .int .i64 n, .int .i64 to] W (TPost Z W B bd br (m + 1) Sd (S.rename n to).1 (.int .i64 (S.rename n to).2)) := by
  obtain ⟨hB, hZ, fp, R, fp2, RR, hd, hr, hdj, hz⟩ := h
  exact (r_rename hr hI hs hm hB n to).mono (fun e w' hp => two_r hB hZ hd hr hdj hz hp)
theorem td_remove (h : Two Z W B bd br m S S) (hm : m < 1000) {n : Int} (hn : (Lit.int .i64 n).wf = true) : Calls Try.prog 20 #[.pointer (some ⟨bd, 0, none⟩), .int .i64 n] W (TPost Z W B bd br (m + 1) (S.remove n).1 S (.int .i64 (S.remove n).2)) := by
  obtain ⟨hB, hZ, fp, R, fp2, RR, hd, hr, hdj, hz⟩ := h
  exact (fs_remove hd hm hB hn).mono (fun e w' hp => two_d hB hZ hd hr hdj hz hp)
theorem tr_remove (h : Two Z W B bd br (m + 1) Sd S) (hI : DocI S) (hs : Small S m) (hm : m < 1000) {n : Int} (hn : (Lit.int .i64 n).wf = true) : Calls Try.prog 45 #[.pointer (some ⟨br, 0, none⟩), .int .i64 n] W (TPost Z W B bd br (m + 1) Sd (S.remove n).1 (.int .i64 (S.remove n).2)) := by
  obtain ⟨hB, hZ, fp, R, fp2, RR, hd, hr, hdj, hz⟩ := h
  exact (r_remove hr hI hs hm hB n).mono (fun e w' hp => two_r hB hZ hd hr hdj hz hp)
theorem td_syncDir (h : Two Z W B bd br m S S) (hm : m < 1000)  : Calls Try.prog 13 #[.pointer (some ⟨bd, 0, none⟩)] W (TPost Z W B bd br (m + 1) S.syncDir.1 S (.int .i64 S.syncDir.2)) := by
  obtain ⟨hB, hZ, fp, R, fp2, RR, hd, hr, hdj, hz⟩ := h
  exact (fs_syncDir hd hm hB).mono (fun e w' hp => two_d hB hZ hd hr hdj hz hp)
theorem tr_syncDir (h : Two Z W B bd br (m + 1) Sd S) (hI : DocI S) (hs : Small S m) (hm : m < 1000)  : Calls Try.prog 46 #[.pointer (some ⟨br, 0, none⟩)] W (TPost Z W B bd br (m + 1) Sd S.syncDir.1 (.int .i64 S.syncDir.2)) := by
  obtain ⟨hB, hZ, fp, R, fp2, RR, hd, hr, hdj, hz⟩ := h
  exact (r_syncDir hr hI hs hm hB).mono (fun e w' hp => two_r hB hZ hd hr hdj hz hp)
theorem td_cut (h : Two Z W B bd br m S S) (hm : m < 1000) {n : Int} (hn : (Lit.int .i64 n).wf = true) : Calls Try.prog 14 #[.pointer (some ⟨bd, 0, none⟩), .int .i64 n] W (TPost Z W B bd br (m + 1) (S.cut n) S (.tuple #[])) := by
  obtain ⟨hB, hZ, fp, R, fp2, RR, hd, hr, hdj, hz⟩ := h
  exact (fs_cut (hd.mono (Nat.le_succ m) hm) ((Lit.wf_int_iff .i64 n).1 hn)).mono (fun e w' ⟨e1, h', k⟩ => two_d hB hZ hd hr hdj hz (keepsD hd e1 h' k))
theorem tr_cut (h : Two Z W B bd br (m + 1) Sd S) (n : Int) : Calls Try.prog 47 #[.pointer (some ⟨br, 0, none⟩), .int .i64 n] W (TPost Z W B bd br (m + 1) Sd (S.cut n) (.tuple #[])) := by
  obtain ⟨hB, hZ, fp, R, fp2, RR, hd, hr, hdj, hz⟩ := h
  exact (r_cut hr n).mono (fun e w' hp => two_r hB hZ hd hr hdj hz hp)
theorem td_append (h : Two Z W B bd br m S S) (hm : m < 1000) {n : Int} {v : Value} {bs : List Int} (hn : (Lit.int .i64 n).wf = true) (hv : Rb W v bs) (hbl : bs.length ≤ 300) (hb : 0 < bs.length → ∀ k, v.ownBlock = some k → k < B ∨ Z k) :
    Calls Try.prog 11 #[.pointer (some ⟨bd, 0, none⟩), .int .i64 n, v] W (TPost Z W B bd br (m + 1) (S.append n bs).1 S (.int .i64 (S.append n bs).2)) := by
  obtain ⟨hB, hZ, fp, R, fp2, RR, hd, hr, hdj, hz⟩ := h
  exact (fs_append hd hm hB hn hv hbl (fun h0 k hk hf => (hb h0 k hk).elim (fun h => by have := (hd.lt k hf).1; omega) (fun h => (hz k h).1 hf))).mono (fun e w' hp => two_d hB hZ hd hr hdj hz hp)
theorem tr_append (h : Two Z W B bd br (m + 1) Sd S) (hI : DocI S) (hs : Small S m) (hm : m < 1000) (hU : S.used ≤ 300000000) {n : Int} {v : Value} {bs : List Int} (hv : Rb W v bs) (hbl : bs.length ≤ 300) (hb : 0 < bs.length → ∀ k, v.ownBlock = some k → k < B ∨ Z k) :
    Calls Try.prog 41 #[.pointer (some ⟨br, 0, none⟩), .int .i64 n, v] W (TPost Z W B bd br (m + 1) Sd (S.append n bs).1 (.int .i64 (S.append n bs).2)) := by
  obtain ⟨hB, hZ, fp, R, fp2, RR, hd, hr, hdj, hz⟩ := h
  exact (r_append hr hI hs hm hU hB hv hbl (fun h0 k hk hf => (hb h0 k hk).elim (fun h => by have := (hr.lt k hf).1; omega) (fun h => (hz k h).2 hf))).mono (fun e w' hp => two_r hB hZ hd hr hdj hz hp)
theorem td_crash (h : Two Z W B bd br m S S) (hm : m < 1000) {n : Int} {v : Value} {ks : List Int} (hv : Rd W v ks) (hkl : ks.length ≤ 300) (hb : 0 < ks.length → ∀ k, v.ownBlock = some k → k < B ∨ Z k) :
    Calls Try.prog 15 #[.pointer (some ⟨bd, 0, none⟩), .int .i64 n, v] W (TPost Z W B bd br (m + 1) (S.crash n ks) S (.tuple #[])) := by
  obtain ⟨hB, hZ, fp, R, fp2, RR, hd, hr, hdj, hz⟩ := h
  exact (fs_crash (hd.mono (Nat.le_succ m) hm) hB hv hkl (fun h0 k hk hf => (hb h0 k hk).elim (fun h => by have := (hd.lt k hf).1; omega) (fun h => (hz k h).1 hf))).mono (fun e w' hp => two_d hB hZ hd hr hdj hz hp)
theorem tr_crash (h : Two Z W B bd br (m + 1) Sd S) (hI : DocI S) (hs : Small S m) {n : Int} {v : Value} {ks : List Int} (hv : Rd W v ks) (hkl : ks.length ≤ 300) (hb : 0 < ks.length → ∀ k, v.ownBlock = some k → k < B ∨ Z k) :
    Calls Try.prog 48 #[.pointer (some ⟨br, 0, none⟩), .int .i64 n, v] W (TPost Z W B bd br (m + 1) Sd (S.crash n ks) (.tuple #[])) := by
  obtain ⟨hB, hZ, fp, R, fp2, RR, hd, hr, hdj, hz⟩ := h
  exact (r_crash hr hI hs hB hv hkl (fun h0 k hk hf => (hb h0 k hk).elim (fun h => by have := (hr.lt k hf).1; omega) (fun h => (hz k h).2 hf))).mono (fun e w' hp => two_r hB hZ hd hr hdj hz hp)
theorem td_read (h : Two Z W B bd br m Sd Sr) {n : Int} (hn : (Lit.int .i64 n).wf = true) : Calls Try.prog 16 #[.pointer (some ⟨bd, 0, none⟩), .int .i64 n] W (ReadP W Sd n) := d_read h.disk hn
theorem tr_read (h : Two Z W B bd br m Sd Sr) (hI : DocI Sr) (n : Int) : Calls Try.prog 42 #[.pointer (some ⟨br, 0, none⟩), .int .i64 n] W (ReadP W Sr n) := by
  obtain ⟨hB, hZ, fp, R, fp2, RR, hd, hr, hdj, hz⟩ := h
  exact r_read hr hI n
theorem tr_used (h : Two Z W B bd br m Sd Sr) (hI : DocI Sr) (hU : Sr.used ≤ 300000000) : Calls Try.prog 26 #[.pointer (some ⟨br, 0, none⟩)] W fun e w' => e = .returned (.int .i64 Sr.used) ∧ Below W.heap.size W w' := by
  obtain ⟨hB, hZ, fp, R, fp2, RR, hd, hr, hdj, hz⟩ := h
  exact r_used hr hI hU
theorem tr_Dir (h : Two Z W B bd br m Sd Sr) (hI : DocI Sr) : Calls Try.prog 25 #[.pointer (some ⟨br, 0, none⟩)] W fun e w' => ∃ v', e = .returned v' ∧ RdN w' v' Sr.now ∧ Below W.heap.size W w' := by
  obtain ⟨hB, hZ, fp, R, fp2, RR, hd, hr, hdj, hz⟩ := h
  exact (r_Dir hr hI).mono (fun e w' ⟨v', h1, h2, _, h4⟩ => ⟨v', h1, h2, h4⟩)
theorem Two.out (h : Two Z W B bd br m Sd Sr) : W.cell? ⟨br, 4, none⟩ = some (.bool Sr.out) := by
  obtain ⟨hB, hZ, fp, R, fp2, RR, hd, hr, hdj, hz⟩ := h
  exact hr.blk.cell 4
end
end Go.Proofs.Ytpckjinlopmbcaa
