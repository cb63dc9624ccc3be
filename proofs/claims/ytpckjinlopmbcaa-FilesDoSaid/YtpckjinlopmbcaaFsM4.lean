/-
  Package files: Read, Sync, Remove.
-/
import Derived.Test.YtpckjinlopmbcaaFsM3
namespace Go.Proofs.Ytpckjinlopmbcaa
set_option linter.unusedVariables false
set_option maxRecDepth 100000
set_option linter.unusedSimpArgs false
open Go.RowKit Go.Maps
section
variable {w w' : World} {base bd m : Nat} {fp : Nat → Prop} {R : FRef} {S : FS}
/-- The disk lies as it lay when nothing of it is written. -/
theorem DRep0.keeps {F : Nat → Prop} (h : DRep0 w base fp bd R S) (k : Keeps F w w') (hF : ∀ q, fp q → ¬ F q) : DRep0 w' base fp bd R S :=
  ⟨h.blk.keeps k (hF _ h.fpd), h.fpd, h.parts.keeps h.inv k hF, h.inv, fun q hq => ⟨(h.lt q hq).1, Nat.lt_of_lt_of_le (h.lt q hq).2 k.size⟩⟩
theorem DRep.keeps {F : Nat → Prop} (h : DRep w base fp bd R m S) (k : Keeps F w w') (hF : ∀ q, fp q → ¬ F q) : DRep w' base fp bd R m S := ⟨h.toDRep0.keeps k hF, h.small⟩
theorem DRep.below (h : DRep w base fp bd R m S) (hb : Below w.heap.size w w') : DRep w' base fp bd R m S := h.keeps (F := fun _ => False) (Keeps.ofBelow hb) (fun _ _ h => h)
/-- What a method leaves. -/
def FsPost (w : World) (base : Nat) (fp : Nat → Prop) (bd m : Nat) (S' : FS) (v : Value) (e : Ending) (w' : World) : Prop :=
  e = .returned v ∧ ∃ fp' R', DRep w' base fp' bd R' m S' ∧ (∀ k, k < w.heap.size → (fp' k ↔ fp k)) ∧ Keeps fp w w'
theorem Small.did (h : Small S m) : Small S.did m := by
  unfold FS.did
  split
  · rename_i ha
    have h1 := h.leftA ha
    have h2 := h.left
    exact h.more _ _ (by omega) (fun e => by simp at e; omega)
  · exact h
theorem Small.mono (h : Small S m) {m' : Nat} (hm : m ≤ m') (ht : m' ≤ 1000) : Small S m' := ⟨ht, h.room, h.left, h.leftA, Nat.le_trans h.many hm, Nat.le_trans h.dirs hm, Nat.le_trans h.nowl hm, fun f => Nat.le_trans (h.len f) (Nat.mul_le_mul_left _ hm)⟩
theorem Small.change (h : Small S m) (ht : m + 1 ≤ 1000) (c : Chg) : Small (S.change c) (m + 1) := by
  have h1 := h.dirs
  have h2 := h.nowl
  have h3 := length_app S.now c
  refine ⟨ht, h.room, h.left, h.leftA, Nat.le_trans h.many (by omega), ?_, ?_, fun f => Nat.le_trans (h.len f) (Nat.mul_le_mul_left _ (by omega))⟩
  · show S.kept.length + (S.waits ++ [c]).length ≤ m + 1
    rw [List.length_append]; simp; omega
  · show (c.app S.now).length ≤ m + 1
    omega
def updV (f : Nat → Value) (p : Nat) (v : Value) : Nat → Value := fun q => if q = p then v else f q
theorem updV_same (f : Nat → Value) (p : Nat) (v : Value) : updV f p v p = v := by simp [updV]
theorem updV_ne (f : Nat → Value) {p q : Nat} (v : Value) (h : q ≠ p) : updV f p v q = f q := by simp [updV, h]
theorem FInv.setF (h : FInv S) (f : Nat) (v : PFile) (hv : v.kept ≤ v.b.length) : FInv (S.setF f v) := by
  refine ⟨h.kept, h.now, h.lt, h.wlt, fun g => ?_, h.eq⟩
  show (updF S.files f v g).kept ≤ (updF S.files f v g).b.length
  by_cases e : g = f
  · subst e; rw [updF_same]; exact hv
  · rw [updF_ne _ _ e]; exact h.le g
theorem Small.setF (h : Small S m) (f : Nat) (v : PFile) (hv : v.b.length ≤ 300 * m) : Small (S.setF f v) m := by
  refine ⟨h.top, h.room, h.left, h.leftA, h.many, h.dirs, h.nowl, fun g => ?_⟩
  show (updF S.files f v g).b.length ≤ _
  by_cases e : g = f
  · subst e; rw [updF_same]; exact hv
  · rw [updF_ne _ _ e]; exact h.len g
/-- A file that is written. -/
theorem DRep0.setF (h : DRep0 w base fp bd R S) (hw : base ≤ w.heap.size) {f : Nat} (hf : f < S.many) {F : Nat → Prop} (k : Keeps F w w') (hF : ∀ q, F q → q = R.fb f ∨ (R.fv f).ownBlock = some q) (v' : Value) (x : PFile) (hx : x.kept ≤ x.b.length)
    (hB : Blk w' (R.fb f) #[v', .int .i64 x.kept] 64) (hO : Own w' 5 1 v' x.b.length (byt x.b)) (hat : ∀ q, v'.ownBlock = some q → (R.fv f).ownBlock = some q ∨ w.heap.size ≤ q) :
    DRep0 w' base (fpAll fp w w') bd { R with fv := updV R.fv f v' } (S.setF f x) := by
  have P := h.parts
  have nB : ∀ {q : Nat} {cs : Array Value} {T : TypeId}, Blk w q cs T → T ≠ 64 → T ≠ 5 → ¬ F q := fun hq n1 n2 e => by
    rcases hF _ e with e | e
    · exact blk_ne hq (P.files.blk f hf) n1 e
    · exact own_blk_ne (P.files.own f hf) hq (fun e => n2 e.symm) e
  have nO : ∀ {e : TypeId} {s n : Nat} {v : Value} {xs : List Value}, Own w e s v n xs → e ≠ 64 → e ≠ 5 → ∀ q, v.ownBlock = some q → ¬ F q := fun ho n1 n2 q hq e => by
    rcases hF _ e with e | e
    · exact own_blk_ne ho (P.files.blk f hf) n1 (e ▸ hq)
    · exact own_type_ne ho (P.files.own f hf) n2 hq e
  have nM : ∀ {b : Nat} {l : Dir}, OwnD w R.fb b l → ¬ F b := fun ho e => by
    rcases hF _ e with e | e
    · exact ownD_ne ho (P.files.blk f hf) e
    · exact ownD_ne' ho (P.files.own f hf) e
  have hbox : ∀ q, fp q → BoxB w q → ¬ F q := fun q _ hb => by
    obtain ⟨v, T, hT, hv⟩ := hb
    rcases hT with rfl | rfl
    · exact nB hv (by decide) (by decide)
    · exact nB hv (by decide) (by decide)
  have hfp : ∀ q, fp q → fpAll fp w w' q := fun q hq => .inl hq
  have oldv : ∀ g, g < S.many → ∀ q, (R.fv g).ownBlock = some q → q < w.heap.size := fun g hg q hq => own_lt (P.files.own g hg) hq
  refine ⟨h.blk.keeps k (nB h.blk (by decide) (by decide)), .inl h.fpd, ⟨ownD_keeps P.kept k (nM P.kept), ownD_keeps P.now k (nM P.now), P.ne, .inl P.fpk, .inl P.fpn, ⟨fun g hg => ?_, fun g hg => ?_, P.files.inj, fun g g' q hg hg' hq hq' => ?_, fun g hg => .inl (P.files.fpb g hg), fun g q hg hq => ?_⟩, ?_⟩, h.inv.setF f x hx, fun q hq => ?_⟩
  · show Blk w' (R.fb g) #[updV R.fv f v' g, .int .i64 (updF S.files f x g).kept] 64
    by_cases e : g = f
    · subst e; rw [updV_same, updF_same]; exact hB
    · rw [updV_ne _ _ e, updF_ne _ _ e]
      refine (P.files.blk g hg).keeps k (fun e' => ?_)
      rcases hF _ e' with e' | e'
      · exact e (P.files.inj g f hg hf e')
      · exact own_blk_ne (P.files.own f hf) (P.files.blk g hg) (by decide) e'
  · show Own w' 5 1 (updV R.fv f v' g) (updF S.files f x g).b.length (byt (updF S.files f x g).b)
    by_cases e : g = f
    · subst e; rw [updV_same, updF_same]; exact hO
    · rw [updV_ne _ _ e, updF_ne _ _ e]
      refine own_keeps (P.files.own g hg) k (fun q hq e' => ?_)
      rcases hF _ e' with e' | e'
      · exact own_blk_ne (P.files.own g hg) (P.files.blk f hf) (by decide) (e' ▸ hq)
      · exact e (P.files.apart g f q hg hf hq e')
  · have hq : (updV R.fv f v' g).ownBlock = some q := hq
    have hq' : (updV R.fv f v' g').ownBlock = some q := hq'
    by_cases e : g = f <;> by_cases e' : g' = f
    · rw [e, e']
    · subst e
      rw [updV_same] at hq; rw [updV_ne _ _ e'] at hq'
      have hl := oldv g' hg' q hq'
      rcases hat q hq with h1 | h1
      · exact P.files.apart g g' q hf hg' h1 hq'
      · omega
    · subst e'
      rw [updV_same] at hq'; rw [updV_ne _ _ e] at hq
      have hl := oldv g hg q hq
      rcases hat q hq' with h1 | h1
      · exact P.files.apart g g' q hg hf hq h1
      · omega
    · rw [updV_ne _ _ e] at hq; rw [updV_ne _ _ e'] at hq'
      exact P.files.apart g g' q hg hg' hq hq'
  · have hq : (updV R.fv f v' g).ownBlock = some q := hq
    by_cases e : g = f
    · subst e
      rw [updV_same] at hq
      rcases hat q hq with h1 | h1
      · exact .inl (P.files.fpv g q hf h1)
      · exact .inr ⟨h1, own_lt hO hq⟩
    · rw [updV_ne _ _ e] at hq
      exact .inl (P.files.fpv g q hg hq)
  · exact P.waits.keeps (many := S.many) k (nO P.waits.own (by decide) (by decide)) hbox hfp h.inv.wlt (fun _ _ => rfl) rfl rfl
  · rcases hq with hq | hq
    · exact ⟨(h.lt q hq).1, Nat.lt_of_lt_of_le (h.lt q hq).2 k.size⟩
    · exact ⟨by omega, hq.2⟩
/-- What Read leaves. -/
def ReadP (w : World) (S : FS) (n : Int) (e : Ending) (w' : World) : Prop :=
  ∃ v', e = .returned (.tuple #[v', .int .i64 (S.read n).2]) ∧ Own w' 5 1 v' (S.read n).1.length (byt (S.read n).1) ∧ (∀ k, v'.ownBlock = some k → w.heap.size ≤ k) ∧ Below w.heap.size w w'
theorem FInv.fid_lt (h : FInv S) {n : Int} (hw : S.why n = 0) : S.fid n < S.many := by
  unfold FS.why at hw
  unfold FS.fid
  cases ha : atD S.now n with
  | none => rw [ha] at hw; simp at hw; split at hw <;> omega
  | some f => exact h.lt _ (.inl (atD_some ha))
set_option maxHeartbeats 1600000 in
theorem fs_read (h : DRep w base fp bd R m S) {n : Int} (hn : (Lit.int .i64 n).wf = true) : Calls Try.prog 16 #[.pointer (some ⟨bd, 0, none⟩), .int .i64 n] w (ReadP w S n) := by
  have hF := fs_find h hn
  by_cases hw : S.why n = 0
  · have hf := h.inv.fid_lt hw
    have hB := h.parts.files.blk _ hf
    have hO := h.parts.files.own _ hf
    have hl := h.small.len (S.fid n)
    have ht := h.small.top
    have c0 := hB.cell 0
    have hC := sl_bclone (own_rb hO) (by omega)
    have e1 : findV R S n = .pointer (some ⟨R.fb (S.fid n), 0, none⟩) := by unfold findV; rw [if_pos hw]
    have e2 : S.read n = ((S.files (S.fid n)).b, 0) := by unfold FS.read; rw [if_pos hw]
    rw [e1, hw] at hF
    unfold ReadP
    rw [e2]
    simp only
    simp at c0
    obtain ⟨av, cv, ev⟩ := own_shape hO
    rw [ev] at hC c0
    clear h hB hO hw e1 e2 ev
    go_enter Try.func16, Try.ntmps16
    go_wp2_with (first
      | (go_at_call 32; refine hF.mono ?_; rintro e w1 ⟨rfl, rfl⟩)
      | (go_at_call 36; refine hC.mono ?_; rintro e w2 ⟨v', rfl, h1, h2, h3⟩)
      | go_in)
    go_ret2
    exact ⟨v', rfl, h1, h2, h3⟩
  · have e1 : findV R S n = .pointer none := by unfold findV; rw [if_neg hw]
    have e2 : S.read n = ([], S.why n) := by unfold FS.read; rw [if_neg hw]
    have hy : (S.why n == 0) = false := by simpa using hw
    rw [e1] at hF
    unfold ReadP
    rw [e2]
    simp only
    generalize S.why n = y at *
    clear h hw e1 e2
    go_enter Try.func16, Try.ntmps16
    go_wp2_with (first
      | (go_at_call 32; refine hF.mono ?_; rintro e w1 ⟨rfl, rfl⟩)
      | go_in)
    go_ret2
    exact ⟨_, rfl, World.ownsRow_nil .., by simp [Value.ownBlock], Below.refl _ _⟩
end
end Go.Proofs.Ytpckjinlopmbcaa
