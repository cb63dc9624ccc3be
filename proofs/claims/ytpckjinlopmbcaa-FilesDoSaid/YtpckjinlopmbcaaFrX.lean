/-
  The document's disk: what is written of it.
-/
import Derived.Test.YtpckjinlopmbcaaFrM1
namespace Go.Proofs.Ytpckjinlopmbcaa
set_option linter.unusedVariables false
set_option maxRecDepth 100000
set_option linter.unusedSimpArgs false
open Go.RowKit Go.Maps
section
variable {w w' W : World} {fp fp' : Nat → Prop} {R R' : RRef} {S : FS} {base br m : Nat}
/-- A file that is written. -/
theorem RRep.setF (h : RRep w base fp br R S) (hw : base ≤ w.heap.size) {f : Nat} (hf : f < S.many) {F : Nat → Prop} (k : Keeps F w w') (hF : ∀ q, F q → q = R.fb f ∨ (R.fv f).ownBlock = some q) (v' : Value) (x : PFile)
    (hB : Blk w' (R.fb f) #[v', .int .i64 x.kept] 81) (hO : Own w' 5 1 v' x.b.length (byt x.b)) (hat : ∀ q, v'.ownBlock = some q → (R.fv f).ownBlock = some q ∨ w.heap.size ≤ q) :
    RRep w' base (fpAll fp w w') br { R with fv := updV R.fv f v' } (S.setF f x) := by
  have P := h.parts
  have nB : ∀ {q : Nat} {cs : Array Value} {T : TypeId}, Blk w q cs T → T ≠ 81 → T ≠ 5 → ¬ F q := fun hq n1 n2 e => by
    rcases hF _ e with e | e
    · exact blk_ne hq (P.files.blk f hf) n1 e
    · exact own_blk_ne (P.files.own f hf) hq (fun e => n2 e.symm) e
  have nO : ∀ {e : TypeId} {s n : Nat} {v : Value} {xs : List Value}, Own w e s v n xs → e ≠ 81 → e ≠ 5 → ∀ q, v.ownBlock = some q → ¬ F q := fun ho n1 n2 q hq e => by
    rcases hF _ e with e | e
    · exact own_blk_ne ho (P.files.blk f hf) n1 (e ▸ hq)
    · exact own_type_ne ho (P.files.own f hf) n2 hq e
  have hfp : ∀ q, fp q → fpAll fp w w' q := fun q hq => .inl hq
  have oldv : ∀ g, g < S.many → ∀ q, (R.fv g).ownBlock = some q → q < w.heap.size := fun g hg q hq => own_lt (P.files.own g hg) hq
  refine ⟨h.blk.keeps k (nB h.blk (by decide) (by decide)), .inl h.fpd, ⟨⟨fun g hg => ?_, fun g hg => ?_, P.files.inj, fun g g' q hg hg' hq hq' => ?_, fun g hg => .inl (P.files.fpb g hg), fun g q hg hq => ?_⟩, own_keeps P.fown k (nO P.fown (by decide) (by decide)), fun q hq => .inl (P.fpF q hq), P.kept.keeps k (fun h0 q hq e => ?_), fun h0 q hq => .inl (P.fpK h0 q hq), own_keeps P.waits k (nO P.waits (by decide) (by decide)), fun q hq => .inl (P.fpW q hq)⟩, fun q hq => ?_⟩
  · show Blk w' (R.fb g) #[updV R.fv f v' g, .int .i64 (updF S.files f x g).kept] 81
    by_cases e : g = f
    · subst e; rw [updV_same, updF_same]; exact hB
    · rw [updV_ne _ _ e, updF_ne _ _ e]
      refine (P.files.blk g hg).keeps k (fun e' => ?_)
      rcases hF _ e' with e' | e'
      · exact e (P.files.inj g f hg hf e')
      · exact own_blk_ne (P.files.own f hf) (P.files.blk g hg) (by decide) e'
  · show Own w' 5 1 (updV R.fv f v' g) (updF S.files f x g).b.length (byt (updF S.files f x g).b)
    by_cases e : g = f
    · subst e; rw [updV_same, updF_same]; exact hO
    · rw [updV_ne _ _ e, updF_ne _ _ e]
      refine own_keeps (P.files.own g hg) k (fun q hq e' => ?_)
      rcases hF _ e' with e' | e'
      · exact own_blk_ne (P.files.own g hg) (P.files.blk f hf) (by decide) (e' ▸ hq)
      · exact e (P.files.apart g f q hg hf hq e')
  · have hq : (updV R.fv f v' g).ownBlock = some q := hq
    have hq' : (updV R.fv f v' g').ownBlock = some q := hq'
    by_cases e : g = f <;> by_cases e' : g' = f
    · rw [e, e']
    · subst e
      rw [updV_same] at hq; rw [updV_ne _ _ e'] at hq'
      have hl := oldv g' hg' q hq'
      rcases hat q hq with h1 | h1
      · exact P.files.apart g g' q hf hg' h1 hq'
      · omega
    · subst e'
      rw [updV_same] at hq'; rw [updV_ne _ _ e] at hq
      have hl := oldv g hg q hq
      rcases hat q hq' with h1 | h1
      · exact P.files.apart g g' q hg hf hq h1
      · omega
    · rw [updV_ne _ _ e] at hq; rw [updV_ne _ _ e'] at hq'
      exact P.files.apart g g' q hg hg' hq hq'
  · have hq : (updV R.fv f v' g).ownBlock = some q := hq
    by_cases e : g = f
    · subst e
      rw [updV_same] at hq
      rcases hat q hq with h1 | h1
      · exact .inl (P.files.fpv g q hf h1)
      · exact .inr ⟨h1, own_lt hO hq⟩
    · rw [updV_ne _ _ e] at hq
      exact .inl (P.files.fpv g q hg hq)
  · rcases hF _ e with e | e
    · exact rdn_ne P.kept (P.files.blk f hf) (by decide) h0 (e ▸ hq)
    · exact rdn_own_ne P.kept (P.files.own f hf) (by decide) h0 hq e
  · rcases hq with hq | hq
    · exact ⟨(h.lt q hq).1, Nat.lt_of_lt_of_le (h.lt q hq).2 k.size⟩
    · exact ⟨by omega, hq.2⟩
/-- A change that waits. -/
theorem RRep.wait (h : RRep w base fp br R S) (hw : base ≤ w.heap.size) (c : Chg) {vW' : Value} (k : Keeps (fun q => R.vW.ownBlock = some q ∨ q = br) w w') (hB : Blk w' br (rdV { R with vW := vW' } (S.change c)) 55)
    (hown : Own w' 87 3 vW' (S.waits.length + 1) (chC (S.waits ++ [c]))) (hat : ∀ q, vW'.ownBlock = some q → R.vW.ownBlock = some q ∨ w.heap.size ≤ q) : RRep w' base (fpAll fp w w') br { R with vW := vW' } (S.change c) := by
  have P := h.parts
  refine ⟨hB, .inl h.fpd, ⟨P.files.keeps k (fun f hf e => ?_) (fun f q hf hq e => ?_) (fun _ h => .inl h) (fun _ _ => rfl) (fun _ _ => rfl), own_keeps P.fown k (fun q hq e => ?_), fun q hq => .inl (P.fpF q hq), P.kept.keeps k (fun h0 q hq e => ?_), fun h0 q hq => .inl (P.fpK h0 q hq), ?_, fun q hq => ?_⟩, fun q hq => ?_⟩
  · rcases e with e | e
    · exact own_blk_ne P.waits (P.files.blk f hf) (by decide) e
    · exact blk_ne (P.files.blk f hf) h.blk (by decide) e
  · rcases e with e | e
    · exact own_type_ne (P.files.own f hf) P.waits (by decide) hq e
    · exact own_blk_ne (P.files.own f hf) h.blk (by decide) (e ▸ hq)
  · rcases e with e | e
    · exact own_type_ne P.fown P.waits (by decide) hq e
    · exact own_blk_ne P.fown h.blk (by decide) (e ▸ hq)
  · rcases e with e | e
    · exact rdn_own_ne P.kept P.waits (by decide) h0 hq e
    · exact rdn_ne P.kept h.blk (by decide) h0 (e ▸ hq)
  · show Own w' _ 3 vW' (S.waits ++ [c]).length _
    rw [List.length_append]; exact hown
  · rcases hat q hq with h1 | h1
    · exact .inl (P.fpW q h1)
    · exact .inr ⟨h1, own_lt hown hq⟩
  · rcases hq with hq | hq
    · exact ⟨(h.lt q hq).1, Nat.lt_of_lt_of_le (h.lt q hq).2 k.size⟩
    · exact ⟨by omega, hq.2⟩
/-- A file more. -/
theorem RRep.file (h : RRep w base fp br R S) (hw : base ≤ w.heap.size) {vF' : Value} (k : Keeps (fun q => R.vF.ownBlock = some q ∨ q = br) w w') {q0 : Nat} (hq0 : w.heap.size ≤ q0) (hb0 : Blk w' q0 #[.slice none 0 0, .int .i64 0] 81) (hB : Blk w' br (rdV { R with vF := vF' } S) 55)
    (hown : Own w' 82 1 vF' (S.many + 1) (ptrsF R.fb S.many ++ [.pointer (some ⟨q0, 0, none⟩)])) (hat : ∀ q, vF'.ownBlock = some q → R.vF.ownBlock = some q ∨ w.heap.size ≤ q) :
    RRep w' base (fpAll fp w w') br { R with fb := updN R.fb S.many q0, fv := updV R.fv S.many (.slice none 0 0), vF := vF' } S.more := by
  have P := h.parts
  have hfb : ∀ f, f < S.many → updN R.fb S.many q0 f = R.fb f := fun f hf => updN_ne _ _ (by omega)
  have hfv : ∀ f, f < S.many → updV R.fv S.many (.slice none 0 0) f = R.fv f := fun f hf => updV_ne _ _ (by omega)
  have hff : ∀ f, f < S.many → updF S.files S.many ⟨[], 0⟩ f = S.files f := fun f hf => updF_ne _ _ (by omega)
  have ht : ∀ f, f < S.many + 1 → f < S.many ∨ f = S.many := fun f hf => by omega
  have old : ∀ f, f < S.many → R.fb f < w.heap.size := fun f hf => (P.files.blk f hf).lt
  have n1 : ∀ f, f < S.many → ¬ (R.vF.ownBlock = some (R.fb f) ∨ R.fb f = br) := fun f hf e => by
    rcases e with e | e
    · exact own_blk_ne P.fown (P.files.blk f hf) (by decide) e
    · exact blk_ne (P.files.blk f hf) h.blk (by decide) e
  have n2 : ∀ f q, f < S.many → (R.fv f).ownBlock = some q → ¬ (R.vF.ownBlock = some q ∨ q = br) := fun f q hf hq e => by
    rcases e with e | e
    · exact own_type_ne (P.files.own f hf) P.fown (by decide) hq e
    · exact own_blk_ne (P.files.own f hf) h.blk (by decide) (e ▸ hq)
  refine ⟨hB, .inl h.fpd, ⟨⟨fun f hf => ?_, fun f hf => ?_, fun f g hf hg he => ?_, fun f g x hf hg hx hx' => ?_, fun f hf => ?_, fun f x hf hx => ?_⟩, ?_, fun q hq => ?_, P.kept.keeps k (fun h0 q hq e => ?_), fun h0 q hq => .inl (P.fpK h0 q hq), own_keeps P.waits k (fun q hq e => ?_), fun q hq => .inl (P.fpW q hq)⟩, fun q hq => ?_⟩
  · show Blk w' (updN R.fb S.many q0 f) #[updV R.fv S.many (.slice none 0 0) f, .int .i64 (updF S.files S.many ⟨[], 0⟩ f).kept] _
    rcases ht f hf with hf | rfl
    · rw [hfb f hf, hfv f hf, hff f hf]; exact (P.files.blk f hf).keeps k (n1 f hf)
    · rw [updN_same, updV_same, updF_same]; exact hb0
  · show Own w' _ 1 (updV R.fv S.many (.slice none 0 0) f) (updF S.files S.many ⟨[], 0⟩ f).b.length (byt (updF S.files S.many ⟨[], 0⟩ f).b)
    rcases ht f hf with hf | rfl
    · rw [hfv f hf, hff f hf]; exact own_keeps (P.files.own f hf) k (fun q hq => n2 f q hf hq)
    · rw [updV_same, updF_same]; exact World.ownsRow_nil ..
  · have he : updN R.fb S.many q0 f = updN R.fb S.many q0 g := he
    rcases ht f hf with hf | rfl <;> rcases ht g hg with hg | rfl
    · rw [hfb f hf, hfb g hg] at he; exact P.files.inj f g hf hg he
    · rw [hfb f hf, updN_same] at he; have := old f hf; omega
    · rw [hfb g hg, updN_same] at he; have := old g hg; omega
    · rfl
  · have hx : (updV R.fv S.many (.slice none 0 0) f).ownBlock = some x := hx
    have hx' : (updV R.fv S.many (.slice none 0 0) g).ownBlock = some x := hx'
    rcases ht f hf with hf | rfl <;> rcases ht g hg with hg | rfl
    · rw [hfv f hf] at hx; rw [hfv g hg] at hx'; exact P.files.apart f g x hf hg hx hx'
    · rw [updV_same] at hx'; simp [Value.ownBlock] at hx'
    · rw [updV_same] at hx; simp [Value.ownBlock] at hx
    · rfl
  · show fpAll fp w w' (updN R.fb S.many q0 f)
    rcases ht f hf with hf | rfl
    · rw [hfb f hf]; exact .inl (P.files.fpb f hf)
    · rw [updN_same]; exact .inr ⟨hq0, hb0.lt⟩
  · have hx : (updV R.fv S.many (.slice none 0 0) f).ownBlock = some x := hx
    rcases ht f hf with hf | rfl
    · rw [hfv f hf] at hx; exact .inl (P.files.fpv f x hf hx)
    · rw [updV_same] at hx; simp [Value.ownBlock] at hx
  · show Own w' _ 1 vF' (S.many + 1) (ptrsF (updN R.fb S.many q0) (S.many + 1))
    rw [ptrsF_succ, updN_same, ptrsF_congr hfb]; exact hown
  · rcases hat q hq with h1 | h1
    · exact .inl (P.fpF q h1)
    · exact .inr ⟨h1, own_lt hown hq⟩
  · rcases e with e | e
    · exact rdn_own_ne P.kept P.fown (by decide) h0 hq e
    · exact rdn_ne P.kept h.blk (by decide) h0 (e ▸ hq)
  · rcases e with e | e
    · exact own_type_ne P.waits P.fown (by decide) hq e
    · exact own_blk_ne P.waits h.blk (by decide) (e ▸ hq)
  · rcases hq with hq | hq
    · exact ⟨(h.lt q hq).1, Nat.lt_of_lt_of_le (h.lt q hq).2 k.size⟩
    · exact ⟨by omega, hq.2⟩
/-- Other names are kept, none waits. -/
theorem RRep.names (h : RRep w base fp br R S) {w1 : World} (hw : base ≤ w.heap.size) (hb : Below w.heap.size w w1) (k : Keeps (fun q => q = br) w1 w') {S' : FS} (e1 : S'.files = S.files) (e2 : S'.many = S.many) (e4 : S'.waits = []) {vK' : Value} (hB : Blk w' br (rdV { R with vK := vK', vW := .slice none 0 0 } S') 55)
    (hK : RdN w1 vK' S'.kept) (hf : 0 < S'.kept.length → ∀ k, vK'.ownBlock = some k → fp k ∨ w.heap.size ≤ k) : RRep w' base (fpAll fp w w') br { R with vK := vK', vW := .slice none 0 0 } S' := by
  have hB1 : Blk w1 br (rdV R S) 55 := h.blk.below hb h.blk.lt
  have hP1 := h.parts.keeps (F := fun _ => False) (Keeps.ofBelow hb) (fun _ _ h => h) (fp' := fp) (fun _ h => h)
  have hP := hP1.disk hB1 k (fp' := fpAll fp w w') (fun _ h => .inl h)
  refine ⟨hB, .inl h.fpd, ⟨?_, ?_, hP.fpF, hK.keeps k (fun h0 q hq e => rdn_ne hK hB1 (by decide) h0 (e ▸ hq)), fun h0 q hq => ?_, ?_, fun q hq => by simp [Value.ownBlock] at hq⟩, fun q hq => ?_⟩
  · rw [e1, e2]; exact ⟨hP.files.blk, hP.files.own, hP.files.inj, hP.files.apart, hP.files.fpb, hP.files.fpv⟩
  · rw [e2]; exact hP.fown
  · rcases hf h0 q hq with h1 | h1
    · exact .inl h1
    · refine .inr ⟨h1, ?_⟩
      obtain ⟨a, c, e, _, _, h3⟩ := hK
      obtain ⟨b, o, cs, rfl, hbk, _⟩ := h3 h0
      rw [e] at hq
      have : b = q := by simpa [Value.ownBlock] using hq
      rw [← this]
      exact Nat.lt_of_lt_of_le hbk.lt k.size
  · rw [e4]; exact World.ownsRow_nil ..
  · rcases hq with hq | hq
    · have := hb.size; have := k.size; exact ⟨(h.lt q hq).1, by have := (h.lt q hq).2; omega⟩
    · exact ⟨by omega, hq.2⟩
/-- did, as the last of a method. -/
theorem r_did_end {fp1 : Nat → Prop} {R1 : RRef} {S1 : FS} {w1 : World} (h1 : RRep w1 base fp1 br R1 S1) (hs : Small S1 m) (ho : S1.out = false) (hd : fp br) (k1 : Keeps fp w w1) (hi : ∀ k, k < w.heap.size → (fp1 k ↔ fp k)) :
    Calls Try.prog 56 #[.pointer (some ⟨br, 0, none⟩)] w1 fun e w2 => e = .returned (.tuple #[]) ∧ ∀ v, RPost w base fp br S1.did v (.returned v) w2 :=
  (r_did h1 hs.left hs.leftA ho).mono fun e w2 ⟨e1, h2, k2⟩ => ⟨e1, fun v => ⟨rfl, _, _, h2, hi, k1.trans' (k2.mono (fun q e => by rw [e]; exact hd))⟩⟩
theorem RRep.still (h : RRep w base fp br R S) (hb : Below w.heap.size w w') {v : Value} : RPost w base fp br S v (.returned v) w' := ⟨rfl, fp, R, h.below hb, fun _ _ => Iff.rfl, Keeps.ofBelow hb⟩
end
end Go.Proofs.Ytpckjinlopmbcaa
