/-
  Package files: what Append does, in memory.
-/
import Derived.Test.YtpckjinlopmbcaaFsM7
namespace Go.Proofs.Ytpckjinlopmbcaa
set_option linter.unusedVariables false
set_option maxRecDepth 100000
set_option linter.unusedSimpArgs false
open Go.RowKit Go.Maps
/-- Bytes put behind a row of the program's own. -/
theorem wpList_bapp {w : World} {ops : Array Oper} {rest : List Oper} {o : Oper} {a : Act} {Q : Exit → Act → World → Prop} (hgd : o.guard = none) (s x : Operand)
    (ho : o.op = .call { callee := .builtin .append, args := #[s, x], argTypes := #[22, 22] }) (v : Value) (xs : List Int) (hs : a.eval s = v) (hown : Own w 5 1 v xs.length (byt xs)) (u : Value) (L : List Int) (hx : a.eval x = u) (hrd : Rb w u L) (hl : xs.length + L.length ≤ 1099511627776)
    (h : ∀ v' w', Own w' 5 1 v' (xs ++ L).length (byt (xs ++ L)) → w.grownBy w' v.ownBlock → (∀ k, v'.ownBlock = some k → v.ownBlock = some k ∨ w.heap.size ≤ k) → wpList Try.prog ops Q rest (a.put o.dst v') w') : wpList Try.prog ops Q (o :: rest) a w := by
  obtain ⟨i0, hi, hz0, hz1, hz2⟩ := info_parts infoB
  obtain ⟨ao, c, rfl, hnews⟩ := hrd.news
  cases ao with
  | none =>
    obtain rfl : L = [] := by
      obtain ⟨a', c', e, _, _, h3⟩ := hrd
      simp only [Value.slice.injEq] at e
      rcases L with _ | ⟨y, L⟩
      · rfl
      · obtain ⟨b, o', e', _⟩ := h3 (by simp)
        rw [← e.1] at e'
        cases e'
    refine wpList_append2 w hgd s x 22 22 ho _ _ hs hx (r := v) (w' := w) (fun ty => ?_) (h _ _ (by rw [List.append_nil]; exact hown) ⟨rfl, rfl, rfl, Nat.le_refl _, fun _ _ _ => rfl⟩ (fun k hk => .inl hk))
    rcases hown.2 with ⟨rfl, e0⟩ | ⟨g, cap, cur, rfl, _, _, hnc, _⟩
    · simp [Builtin.append_, run_underlying Try.underlying22, sizeOf, typeInfo, hi, hz1, Builtin.lenOf, Builtin.firstCells, e0]
    · simp [Builtin.append_, run_underlying Try.underlying22, sizeOf, typeInfo, hi, hz1, Builtin.lenOf, Builtin.firstCells, hnc, storeCells]
  | some ad =>
    refine wpList_append_own_at w hgd s x 22 ho 0 5 i0 (.int .u8 0) 1 1 Try.underlying22 hi hz0 hz1 hz2 rfl (by decide) v xs.length (byt xs) hs hown ad L.length c (byt L) hx (by simp [byt]) (hnews ad rfl) (byt_one _) (by simp only [maxLen]; omega) (by omega) (Nat.zero_le _) ?_
    intro v' w' h1 h2 h3 h4
    refine h v' w' ?_ h2 (fun k hk => ?_)
    · rw [List.length_append]; simpa [byt] using h1
    · rcases h4 with e | e
      · exact .inl (e ▸ hk)
      · rw [e] at hk; exact .inr (by have := Option.some.inj hk; omega)
section
variable {w w' : World} {base bd m : Nat} {fp fp' : Nat → Prop} {R : FRef} {S : FS}
theorem DRep.drew (h : DRep w base fp bd R m S) : DRep w.drew base fp bd R m S := h.keeps (F := fun _ => False) (Keeps.refl _ _).drew (fun _ _ h => h)
/-- The end of Append: the bytes laid behind the file's. -/
theorem app_tail {W w2 : World} {fp1 : Nat → Prop} {R1 : FRef} {S1 : FS} (h1 : DRep0 W base fp1 bd R1 S1) (hs : Small S1 (m + 1)) (hd : fp bd) (hw0 : base ≤ w.heap.size) (hws : w.heap.size ≤ W.heap.size) (k1 : Keeps fp w W) (hi : ∀ k, k < w.heap.size → (fp1 k ↔ fp k)) {f : Nat} (hf : f < S1.many) {bs : List Int} (hl : ((S1.files f).b ++ bs).length ≤ 300 * (m + 1)) {v' : Value}
    (hown : Own w2 5 1 v' ((S1.files f).b ++ bs).length (byt ((S1.files f).b ++ bs))) (g : W.grownBy w2 (R1.fv f).ownBlock) (hat : ∀ k, v'.ownBlock = some k → (R1.fv f).ownBlock = some k ∨ W.heap.size ≤ k) :
    Calls Try.prog 31 #[.pointer (some ⟨bd, 0, none⟩)] (w2.setCell ⟨R1.fb f, 0, none⟩ v') fun e w3 => e = .returned (.int .i64 0) ∧ FsPost w base fp bd (m + 1) (S1.setF f ⟨(S1.files f).b ++ bs, (S1.files f).kept⟩).did (.int .i64 0) (.returned (.int .i64 0)) w3 := by
  have P := h1.parts
  have hB := P.files.blk f hf
  have hO := P.files.own f hf
  have kg : Keeps (fun q => (R1.fv f).ownBlock = some q) W w2 := (Keeps.refl _ W).grown g (fun k e => .inl e)
  have hB2 : Blk w2 (R1.fb f) #[R1.fv f, .int .i64 (S1.files f).kept] 64 := hB.keeps kg (fun e => own_blk_ne hO hB (by decide) e)
  have k2 : Keeps (fun q => q = R1.fb f ∨ (R1.fv f).ownBlock = some q) W (w2.setCell ⟨R1.fb f, 0, none⟩ v') := (kg.mono (fun q e => .inr e)).trans' ((Keeps.one w2 ⟨R1.fb f, 0, none⟩ v').mono (fun q e => .inl e))
  have hD := h1.setF (by omega) hf k2 (fun q e => e) v' ⟨(S1.files f).b ++ bs, (S1.files f).kept⟩ (by have := h1.inv.le f; show (S1.files f).kept ≤ ((S1.files f).b ++ bs).length; rw [List.length_append]; omega) (by simpa using hB2.set 0 v') (own_set hown hB2 (by decide) 0 v') hat
  refine fs_did_end ⟨hD, hs.setF f _ hl⟩ hd (k1.trans k2 (fun q e => ?_)) (fun k hk => (fpAll_iff (by omega)).trans (hi k hk))
  have hq : fp1 q := by
    rcases e with e | e
    · rw [e]; exact P.files.fpb f hf
    · exact P.files.fpv f q hf e
  by_cases hlt : q < w.heap.size
  · exact .inl ((hi q hlt).1 hq)
  · exact .inr (by omega)
def updN (f : Nat → Nat) (p : Nat) (v : Nat) : Nat → Nat := fun q => if q = p then v else f q
theorem updN_same (f : Nat → Nat) (p : Nat) (v : Nat) : updN f p v p = v := by simp [updN]
theorem updN_ne (f : Nat → Nat) {p q : Nat} (v : Nat) (h : q ≠ p) : updN f p v q = f q := by simp [updN, h]
/-- A file more. -/
def FS.more (S : FS) : FS := { S with files := updF S.files S.many ⟨[], 0⟩, many := S.many + 1 }
/-- A file more, in memory. -/
theorem DRep0.file {W : World} {fp1 : Nat → Prop} (h : DRep0 W base fp1 bd R S) (hb : base ≤ W.heap.size) {W' : World} (k : Keeps (fun _ => False) W W') {q : Nat} (hq : W.heap.size ≤ q) (hB : Blk W' q #[.slice none 0 0, .int .i64 0] 64) :
    DRep0 W' base (fpAll fp1 W W') bd { R with fb := updN R.fb S.many q, fv := updV R.fv S.many (.slice none 0 0) } S.more := by
  have P := h.parts
  have hlt := hB.lt
  have hfb : ∀ f, f < S.many → updN R.fb S.many q f = R.fb f := fun f hf => updN_ne _ _ (by omega)
  have hfv : ∀ f, f < S.many → updV R.fv S.many (.slice none 0 0) f = R.fv f := fun f hf => updV_ne _ _ (by omega)
  have hff : ∀ f, f < S.many → updF S.files S.many ⟨[], 0⟩ f = S.files f := fun f hf => updF_ne _ _ (by omega)
  have ht : ∀ f, f < S.many + 1 → f < S.many ∨ f = S.many := fun f hf => by omega
  have old : ∀ f, f < S.many → R.fb f < W.heap.size := fun f hf => (P.files.blk f hf).lt
  have I := h.inv
  refine ⟨h.blk.keeps k (fun h => h), .inl h.fpd, ⟨ownD_congr (ownD_keeps P.kept k (fun h => h)) (fun x hx => hfb _ (I.lt x (.inr hx))), ownD_congr (ownD_keeps P.now k (fun h => h)) (fun x hx => hfb _ (I.lt x (.inl hx))), P.ne, .inl P.fpk, .inl P.fpn, ⟨fun f hf => ?_, fun f hf => ?_, fun f g hf hg he => ?_, fun f g x hf hg hx hx' => ?_, fun f hf => ?_, fun f x hf hx => ?_⟩, ?_⟩, ?_, fun x hx => ?_⟩
  · show Blk W' (updN R.fb S.many q f) #[updV R.fv S.many (.slice none 0 0) f, .int .i64 (updF S.files S.many ⟨[], 0⟩ f).kept] _
    rcases ht f hf with hf | rfl
    · rw [hfb f hf, hfv f hf, hff f hf]; exact (P.files.blk f hf).keeps k (fun h => h)
    · rw [updN_same, updV_same, updF_same]; exact hB
  · show Own W' _ 1 (updV R.fv S.many (.slice none 0 0) f) (updF S.files S.many ⟨[], 0⟩ f).b.length (byt (updF S.files S.many ⟨[], 0⟩ f).b)
    rcases ht f hf with hf | rfl
    · rw [hfv f hf, hff f hf]; exact own_keeps (P.files.own f hf) k (fun _ _ h => h)
    · rw [updV_same, updF_same]; exact World.ownsRow_nil ..
  · have he : updN R.fb S.many q f = updN R.fb S.many q g := he
    rcases ht f hf with hf | rfl <;> rcases ht g hg with hg | rfl
    · rw [hfb f hf, hfb g hg] at he; exact P.files.inj f g hf hg he
    · rw [hfb f hf, updN_same] at he; have := old f hf; omega
    · rw [hfb g hg, updN_same] at he; have := old g hg; omega
    · rfl
  · have hx : (updV R.fv S.many (.slice none 0 0) f).ownBlock = some x := hx
    have hx' : (updV R.fv S.many (.slice none 0 0) g).ownBlock = some x := hx'
    rcases ht f hf with hf | rfl <;> rcases ht g hg with hg | rfl
    · rw [hfv f hf] at hx; rw [hfv g hg] at hx'; exact P.files.apart f g x hf hg hx hx'
    · rw [updV_same] at hx'; simp [Value.ownBlock] at hx'
    · rw [updV_same] at hx; simp [Value.ownBlock] at hx
    · rfl
  · show fpAll fp1 W W' (updN R.fb S.many q f)
    rcases ht f hf with hf | rfl
    · rw [hfb f hf]; exact .inl (P.files.fpb f hf)
    · rw [updN_same]; exact .inr ⟨hq, hlt⟩
  · have hx : (updV R.fv S.many (.slice none 0 0) f).ownBlock = some x := hx
    rcases ht f hf with hf | rfl
    · rw [hfv f hf] at hx; exact .inl (P.files.fpv f x hf hx)
    · rw [updV_same] at hx; simp [Value.ownBlock] at hx
  · exact P.waits.keeps (many := S.many) k (fun _ _ h => h) (fun _ _ _ h => h) (fun x hx => .inl hx) I.wlt hfb rfl rfl
  · refine ⟨I.kept, I.now, fun x hx => Nat.lt_succ_of_lt (I.lt x hx), fun c hc => (I.wlt c hc).mono (Nat.le_succ _), fun f => ?_, I.eq⟩
    show (updF S.files S.many ⟨[], 0⟩ f).kept ≤ (updF S.files S.many ⟨[], 0⟩ f).b.length
    by_cases e : f = S.many
    · rw [e, updF_same]; exact Nat.le_refl _
    · rw [updF_ne _ _ e]; exact I.le f
  · rcases hx with hx | hx
    · exact ⟨(h.lt x hx).1, Nat.lt_of_lt_of_le (h.lt x hx).2 k.size⟩
    · exact ⟨by omega, hx.2⟩
end
end Go.Proofs.Ytpckjinlopmbcaa
